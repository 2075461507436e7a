-- Printed by a program of this session (wip/tools/myprint.py) that runs the kit's print with contracts of this session's own.
import Derived.Test.YthbknmblehecaaaPrx0
import Derived.Test.YthbknmblehecaaaShort
import Derived.Test.YthbknmblehecaaaWTab
import Derived.Test.YthbknmblehecaaaScope
import Derived.Test.YthbknmblehecaaaPrx3
namespace Go.Proofs.Ythbknmblehecaaa.Pr
open Go.RowKit Go.Proofs.YthbknmblehecaaaW.PrintWords Go.Proofs.YthbknmblehecaaaW.PrintLast Go.Proofs.YthbknmblehecaaaW.PrintMore
attribute [local go_sem] max2_int min2_int max_two min_two max_three min_three max_four min_four   -- for this text's walks alone
set_option linter.unusedVariables false
set_option linter.unusedSimpArgs false

/-! ### runs_Put: function 18 -/
mutual
def runs_Put.j1 : Nat → List (S32) → Int → Int → Int → Option ((List (S32)) × Int)
 | 0, _, _, _, _ => none
 | k + 1, x0, x6, x127000, x127001 => (api_Run_42.f x0).bind fun t132 => ((api_Run_46.f t132 x6 (([(⟨x127000, x127001⟩ : S32)] : List (S32)))).bind fun t138 => (if (wrap64 (x6 + 1)) < (t138.length : Int) then (if 0 ≤ x6 then (if x6 < (t138.length : Int) then ((runs_end.f ((rd_T32 t138 x6).f0) ((rd_T32 t138 x6).f1)).bind fun t142 => (if 0 ≤ (wrap64 (x6 + 1)) then (runs_Put.j2 k x6 t138 (t142 == ((rd_T32 t138 (wrap64 (x6 + 1))).f0))) else (none))) else (none)) else (none)) else (runs_Put.j2 k x6 t138 false)))
def runs_Put.j2 : Nat → Int → List (S32) → Bool → Option ((List (S32)) × Int)
 | 0, _, _, _ => none
 | k + 1, x6, x9, x60 => if x60 = true then (if 0 ≤ x6 then (if x6 < (x9.length : Int) then (if 0 ≤ (wrap64 (x6 + 1)) then (if (wrap64 (x6 + 1)) < (x9.length : Int) then ((api_Run_43.f (x9.set (x6 : Int).toNat (⟨(rd_T32 x9 x6).f0, wrap64 (((rd_T32 x9 x6).f1) + ((rd_T32 x9 (wrap64 (x6 + 1))).f1))⟩ : S32)) (wrap64 (x6 + 1)) (wrap64 (x6 + 2))).bind fun t147 => (runs_Put.j3 k x6 t147)) else (none)) else (none)) else (none)) else (none)) else (runs_Put.j3 k x6 x9)
def runs_Put.j3 : Nat → Int → List (S32) → Option ((List (S32)) × Int)
 | 0, _, _ => none
 | k + 1, x6, x9 => if x6 > 0 then (if 0 ≤ (wrap64 (x6 - 1)) then (if (wrap64 (x6 - 1)) < (x9.length : Int) then ((runs_end.f ((rd_T32 x9 (wrap64 (x6 - 1))).f0) ((rd_T32 x9 (wrap64 (x6 - 1))).f1)).bind fun t151 => (if 0 ≤ x6 then (if x6 < (x9.length : Int) then (if t151 = ((rd_T32 x9 x6).f0) then ((api_Run_43.f (x9.set ((wrap64 (x6 - 1)) : Int).toNat (⟨(rd_T32 x9 (wrap64 (x6 - 1))).f0, wrap64 (((rd_T32 x9 (wrap64 (x6 - 1))).f1) + ((rd_T32 x9 x6).f1))⟩ : S32)) x6 (wrap64 (x6 + 1))).bind fun t156 => (some (t156, 0))) else (some (x9, 0))) else (none)) else (none))) else (none)) else (none)) else (some (x9, 0))
def runs_Put.l0 : Nat → List (S32) → Int → List (S32) → Int → Int → Int → Int → Option ((List (S32)) × Int)
 | 0, _, _, _, _, _, _, _ => none
 | k + 1, x0, x6, x15, x16, x17, x127000, x127001 => if x17 < x16 then (if 0 ≤ x17 then (if x17 < (x15.length : Int) then ((runs_end.f x127000 x127001).bind fun t130 => (if ((rd_T32 x15 x17).f0) ≥ t130 then (runs_Put.j1 k x0 x17 x127000 x127001) else ((runs_end.f ((rd_T32 x15 x17).f0) ((rd_T32 x15 x17).f1)).bind fun t131 => (if t131 > x127000 then (some (([] : List (S32)), 4)) else (runs_Put.l0 k x0 x6 x15 x16 (wrap64 (x17 + 1)) x127000 x127001))))) else (none)) else (none)) else (runs_Put.j1 k x0 x6 x127000 x127001)
end
def runs_Put.f (k : Nat) (l0 : List (S32)) (a1_0 : Int) (a1_1 : Int) : Option ((List (S32)) × Int) := (runs_within.f a1_0 a1_1 256).bind fun t127 => (if t127 = true then (runs_Put.l0 k l0 (l0.length : Int) l0 (l0.length : Int) 0 a1_0 a1_1) else (some (([] : List (S32)), 1)))
theorem runs_Put.mono_l : ∀ k, (∀ y0 y1 y2 y3, LeO (runs_Put.j1 k y0 y1 y2 y3) (runs_Put.j1 (k + 1) y0 y1 y2 y3)) ∧ (∀ y0 y1 y2, LeO (runs_Put.j2 k y0 y1 y2) (runs_Put.j2 (k + 1) y0 y1 y2)) ∧ (∀ y0 y1, LeO (runs_Put.j3 k y0 y1) (runs_Put.j3 (k + 1) y0 y1)) ∧ (∀ y0 y1 y2 y3 y4 y5 y6, LeO (runs_Put.l0 k y0 y1 y2 y3 y4 y5 y6) (runs_Put.l0 (k + 1) y0 y1 y2 y3 y4 y5 y6))
 | 0 => ⟨fun _ _ _ _ r h => by simp [runs_Put.j1] at h, fun _ _ _ r h => by simp [runs_Put.j2] at h, fun _ _ r h => by simp [runs_Put.j3] at h, fun _ _ _ _ _ _ _ r h => by simp [runs_Put.l0] at h⟩
 | k + 1 => by
  obtain ⟨ih0, ih1, ih2, ih3⟩ := runs_Put.mono_l k
  refine ⟨?_, ?_, ?_, ?_⟩
  ·intro y0 y1 y2 y3
   unfold runs_Put.j1
   repeat' first
   | (with_reducible exact ih0 _ _ _ _)
   | (with_reducible exact ih1 _ _ _)
   | (with_reducible exact ih2 _ _)
   | (with_reducible exact ih3 _ _ _ _ _ _ _)
   | (with_reducible exact LeO.refl _)
   | (with_reducible exact LeO.none _)
   | (with_reducible refine LeO.ite ?_ ?_)
   | (with_reducible refine LeO.bind ?_ (fun _ => ?_))
   | exact ih0 _ _ _ _
   | exact ih1 _ _ _
   | exact ih2 _ _
   | exact ih3 _ _ _ _ _ _ _
   | exact LeO.none _
   | refine LeO.ite ?_ ?_
   | refine LeO.bind ?_ (fun _ => ?_)
  ·intro y0 y1 y2
   unfold runs_Put.j2
   repeat' first
   | (with_reducible exact ih0 _ _ _ _)
   | (with_reducible exact ih1 _ _ _)
   | (with_reducible exact ih2 _ _)
   | (with_reducible exact ih3 _ _ _ _ _ _ _)
   | (with_reducible exact LeO.refl _)
   | (with_reducible exact LeO.none _)
   | (with_reducible refine LeO.ite ?_ ?_)
   | (with_reducible refine LeO.bind ?_ (fun _ => ?_))
   | exact ih0 _ _ _ _
   | exact ih1 _ _ _
   | exact ih2 _ _
   | exact ih3 _ _ _ _ _ _ _
   | exact LeO.none _
   | refine LeO.ite ?_ ?_
   | refine LeO.bind ?_ (fun _ => ?_)
  ·intro y0 y1
   unfold runs_Put.j3
   repeat' first
   | (with_reducible exact ih0 _ _ _ _)
   | (with_reducible exact ih1 _ _ _)
   | (with_reducible exact ih2 _ _)
   | (with_reducible exact ih3 _ _ _ _ _ _ _)
   | (with_reducible exact LeO.refl _)
   | (with_reducible exact LeO.none _)
   | (with_reducible refine LeO.ite ?_ ?_)
   | (with_reducible refine LeO.bind ?_ (fun _ => ?_))
   | exact ih0 _ _ _ _
   | exact ih1 _ _ _
   | exact ih2 _ _
   | exact ih3 _ _ _ _ _ _ _
   | exact LeO.none _
   | refine LeO.ite ?_ ?_
   | refine LeO.bind ?_ (fun _ => ?_)
  ·intro y0 y1 y2 y3 y4 y5 y6
   unfold runs_Put.l0
   repeat' first
   | (with_reducible exact ih0 _ _ _ _)
   | (with_reducible exact ih1 _ _ _)
   | (with_reducible exact ih2 _ _)
   | (with_reducible exact ih3 _ _ _ _ _ _ _)
   | (with_reducible exact LeO.refl _)
   | (with_reducible exact LeO.none _)
   | (with_reducible refine LeO.ite ?_ ?_)
   | (with_reducible refine LeO.bind ?_ (fun _ => ?_))
   | exact ih0 _ _ _ _
   | exact ih1 _ _ _
   | exact ih2 _ _
   | exact ih3 _ _ _ _ _ _ _
   | exact LeO.none _
   | refine LeO.ite ?_ ?_
   | refine LeO.bind ?_ (fun _ => ?_)
theorem runs_Put.mono : ∀ a0 a1 a2 k, LeO (runs_Put.f k a0 a1 a2) (runs_Put.f (k + 1) a0 a1 a2) := by
 intro a0 a1 a2 k
 obtain ⟨ih0, ih1, ih2, ih3⟩ := runs_Put.mono_l k
 unfold runs_Put.f
 repeat' first
   | (with_reducible exact ih0 _ _ _ _)
   | (with_reducible exact ih1 _ _ _)
   | (with_reducible exact ih2 _ _)
   | (with_reducible exact ih3 _ _ _ _ _ _ _)
   | (with_reducible exact LeO.refl _)
   | (with_reducible exact LeO.none _)
   | (with_reducible refine LeO.ite ?_ ?_)
   | (with_reducible refine LeO.bind ?_ (fun _ => ?_))
   | exact ih0 _ _ _ _
   | exact ih1 _ _ _
   | exact ih2 _ _
   | exact ih3 _ _ _ _ _ _ _
   | exact LeO.none _
   | refine LeO.ite ?_ ?_
   | refine LeO.bind ?_ (fun _ => ?_)
def runs_Put.T13 : Bool × List (List Nat × List Nat) := (true, [([], []), ([0], [0]), ([], []), ([2], [2]), ([1, 3], [1, 3]), ([4], [4]), ([5], [5]), ([5], [5]), ([6, 7, 5], [5, 6, 7]), ([8, 5], [5, 8]), ([9, 5, 5], [5, 9]), ([5], [5]), ([5], [5]), ([12, 5], [5, 12]), ([11, 13, 5], [5, 11, 13]), ([14, 5], [5, 14]), ([15, 5], [5, 15]), ([10, 16, 5], [5, 10, 16]), ([5, 17], [5, 17])])
def runs_Put.B13 : List Nat := [0, 1, 0, 4, 15, 31, 63, 63, 255, 511, 1023, 63, 63, 4159, 14399, 30783, 63551, 131071, 262143]
theorem runs_Put.tab13 : rtab .any (opsOf Try.f18 13) = runs_Put.T13 := by kernel_rfl
theorem runs_Put.bits13 : waitsOk runs_Put.T13.2 runs_Put.B13 = true := by kernel_rfl
def runs_Put.T14 : Bool × List (List Nat × List Nat) := (true, [([], []), ([], []), ([0, 1], [0, 1]), ([2], [2]), ([3], [3]), ([], []), ([], []), ([6], [6]), ([5, 7], [5, 7]), ([8], [8]), ([9], [9]), ([4, 10], [4, 10]), ([0, 1, 0, 1, 2, 3, 4, 5, 6, 7, 8, 9, 10, 11], [0, 1]), ([12, 0, 1, 2, 3, 4, 5, 6, 7, 8, 9, 10, 11], [12]), ([13, 11, 0, 1, 2, 3, 4, 5, 6, 7, 8, 9, 10, 11], [11, 13])])
def runs_Put.B14 : List Nat := [0, 0, 3, 7, 15, 0, 0, 64, 224, 480, 992, 2047, 4095, 8191, 16383]
theorem runs_Put.tab14 : rtab .any (opsOf Try.f18 14) = runs_Put.T14 := by kernel_rfl
theorem runs_Put.bits14 : waitsOk runs_Put.T14.2 runs_Put.B14 = true := by kernel_rfl
def runs_Put.T16 : Bool × List (List Nat × List Nat) := (true, [([], []), ([0], [0]), ([1], [1]), ([2], [2]), ([2], [2]), ([4, 2], [2, 4]), ([3, 5, 2], [2, 3, 5]), ([6, 2], [2, 6]), ([7, 2, 2], [2, 7]), ([2], [2]), ([2], [2]), ([9, 10, 2], [2, 9, 10]), ([11, 2], [2, 11]), ([12, 2], [2, 12]), ([8, 13, 2], [2, 8, 13]), ([2, 14], [2, 14])])
def runs_Put.B16 : List Nat := [0, 1, 3, 7, 7, 23, 63, 127, 255, 7, 7, 1543, 3591, 7687, 16383, 32767]
theorem runs_Put.tab16 : rtab .any (opsOf Try.f18 16) = runs_Put.T16 := by kernel_rfl
theorem runs_Put.bits16 : waitsOk runs_Put.T16.2 runs_Put.B16 = true := by kernel_rfl
def runs_Put.T17 : Bool × List (List Nat × List Nat) := (true, [([], []), ([], []), ([1], [1]), ([0, 2], [0, 2]), ([3], [3]), ([4], [4]), ([], []), ([], []), ([6, 7], [6, 7]), ([8], [8]), ([9], [9]), ([5, 10], [5, 10]), ([0, 2, 0, 1, 2, 3, 4, 5, 6, 7, 8, 9, 10, 11], [0, 2]), ([12, 0, 1, 2, 3, 4, 5, 6, 7, 8, 9, 10, 11], [12]), ([13, 11, 0, 1, 2, 3, 4, 5, 6, 7, 8, 9, 10, 11], [11, 13])])
def runs_Put.B17 : List Nat := [0, 0, 2, 7, 15, 31, 0, 0, 192, 448, 960, 2047, 4095, 8191, 16383]
theorem runs_Put.tab17 : rtab .any (opsOf Try.f18 17) = runs_Put.T17 := by kernel_rfl
theorem runs_Put.bits17 : waitsOk runs_Put.T17.2 runs_Put.B17 = true := by kernel_rfl
set_option maxHeartbeats 8000000 in
set_option maxRecDepth 100000 in
theorem runs_Put.calls (k : Nat) (A0 : Option Addr) (c0 : Nat) (l0 : List (S32)) (a1_0 : Int) (a1_1 : Int) (r1 : List (S32)) (r2 : Int) (w : World) (hr0 : Kd.C k32 w A0 l0.length l0) (hc0 : l0.length ≤ c0) (h : runs_Put.f k l0 a1_0 a1_1 = some (r1, r2)) :
  Calls Try.prog 18 #[.slice A0 l0.length c0, .agg #[.int .i64 a1_0, .int .i64 a1_1]] w fun e w' => ∃ v0_ : Value, e = .returned (.tuple #[v0_, .int .i64 r2]) ∧ Kd.R k32 32 w' w.heap.size (fun _ => True) v0_ r1 ∧ Below w.heap.size w w' := by
 have hu32 := Try.underlying32
 have HR0 := aM hr0
 have HC0 := aM hc0
 clear hr0 hc0
 have HB := aM (Below.refl w.heap.size w)
 have H : ((runs_within.f a1_0 a1_1 256).bind fun t127 => (if t127 = true then (runs_Put.l0 k l0 (l0.length : Int) l0 (l0.length : Int) 0 a1_0 a1_1) else (some (([] : List (S32)), 1)))) = some (r1, r2) := h
 clear h
 replace H := Option.bind_eq_some_iff.mp H
 obtain ⟨t127, A30, H⟩ := H
 replace H : (if t127 = true then (runs_Put.l0 k l0 (l0.length : Int) l0 (l0.length : Int) 0 a1_0 a1_1) else (some (([] : List (S32)), 1))) = some (r1, r2) := H
 have A3 := aM A30
 clear A30
 by_cases c4 : t127 = true
 ·subst c4
  have H1 : (runs_Put.l0 k l0 (l0.length : Int) l0 (l0.length : Int) 0 a1_0 a1_1) = some (r1, r2) := by rw [if_pos rfl] at H; exact H
  clear H
  have H := H1
  clear H1
  have HC5 := aM H
  clear H
  go_enter Try.func18, Try.ntmps18
  go_upto_block 0 with (first|(with_reducible refine wp_scope_body ?_)|(go_step3)|((with_reducible refine gate_dst (N:=3) rfl ?_);refine box_event ?hg (N:=3) ?hd (cs:=#[.int .i64 a1_0,.int .i64 a1_1]) (t:=32) ?hr ?_;(case hd => rfl);(case hg => rfl);(case hr => first|(go_simp;done)|(go_simp;rfl));intro gb126 hg w6 hbox hb;have n0_:=aM (wT (by repeat (first|(with_reducible first|exact HB.out|apply wA|apply wN_|apply wD)|exact HB.out)) hb);have n1_:=aM (hbox);have n2_:=aM ((by rw [hg];exact (wZ (by repeat (first|(with_reducible first|exact HB.out|apply wA|apply wN_|apply wD)|exact HB.out))) : w.heap.size ≤ gb126));have n3_:=aM ((by rw [hg];exact (wZ (by repeat (first|(with_reducible first|exact HB.out|apply wA|apply wN_|apply wD)|exact HB.out))) : w.heap.size ≤ gb126));clear HB;have HB:=n0_;have BK126:=n1_;have GW126:=n2_;have GE126:=n3_;clear n0_ n1_ n2_ n3_;clear hb hbox hg;have hcz7_0 : w6.cell? ⟨gb126,0,none⟩ = some (.int .i64 a1_0):=(bC BK126.out 0).trans rfl;have hcz7_1 : w6.cell? ⟨gb126,1,none⟩ = some (.int .i64 a1_1):=(bC BK126.out 1).trans rfl;have hfz7_0:=bF BK126.out 0;have hfz7_1:=bF BK126.out 1)|((with_reducible refine gate_callee (f:=44) rfl ?_);refine goesL_ (some 11) rfl rfl Try.func44 (by kernel_rfl) rfl #[.agg #[.int .i64 a1_0,.int .i64 a1_1],.int .i64 256] rfl (by (try simp only [lM,lC,lN]);first|done|rfl|(simp only [lD,lT];rfl)) ?_;(with_reducible refine (runs_within.calls a1_0 a1_1 256 true _ A3.out).mono ?_);rintro e w8 ⟨rfl,hb⟩;refine ⟨_,rfl,?_⟩;have n0_:=aM (bB (g:=gb126) (o:=.cells #[.int .i64 a1_0,.int .i64 a1_1] 32 (0,0)) (by (with_reducible repeat (first|refine bN ?_ _|refine bD ?_|refine bA ?_ _));exact BK126.out) hb);have n1_:=aM (wT (by repeat (first|(with_reducible first|exact HB.out|apply wA|apply wN_|apply wD|refine wS ?_ GE126.out)|exact HB.out)) hb);clear BK126;clear HB;have BK126:=n0_;have HB:=n1_;clear n0_ n1_;(try clear hb);(try clear hb2);(try clear hk);(try clear hi)))
  (try simp only [Act.put, lS, lZ, lU])
  go_cut [6] (fun v6 wc => ∃ (kq : Nat) (x6_4 : Int), v6 = .int .i64 x6_4 ∧ Aside0 (runs_Put.j1 kq l0 x6_4 a1_0 a1_1 = some (r1, r2)) ∧ Aside0 (kq ≤ k) ∧ Aside0 (wc.heap[gb126]? = some (.cells #[.int .i64 a1_0, .int .i64 a1_1] 32 (0, 0))) ∧ Aside0 (Below w.heap.size w wc))
  case first =>
   have H := HC5.out
   clear HC5
   have H' := aM H
   clear H
   go_wp2_with (first|(with_reducible refine wp_scope_body ?_)|(go_step3))
   go_loopg [6, 17] k (fun kq v6 v17 w' => ∃ (x6_1 : Int) (x17_1 : Int), v6 = .int .i64 x6_1 ∧ v17 = .int .i64 x17_1 ∧ Aside0 (runs_Put.l0 kq l0 x6_1 l0 (l0.length : Int) x17_1 a1_0 a1_1 = some (r1, r2)) ∧ Aside0 (kq ≤ k) ∧ Aside0 (w'.heap[gb126]? = some (.cells #[.int .i64 a1_0, .int .i64 a1_1] 32 (0, 0))) ∧ Aside0 (Below w.heap.size w w'))
   case atStart => exact ⟨((l0.length : Int)),(0),(by first|rfl|(simp;done)|(simp [*];done)),(by first|rfl|(simp;done)|(simp [*];done)),H',⟨Nat.le_refl _⟩,⟨by (with_reducible repeat (first|refine bN ?_ _|refine bD ?_|refine bA ?_ _));exact BK126.out⟩,⟨by repeat (first|(with_reducible first|exact HB.out|apply wA|apply wN_|apply wD|refine wS ?_ GE126.out)|exact HB.out)⟩⟩
   case round =>
    clear H'
    try clear c1
    try clear p2
    try clear p3
    try clear c4
    try clear hcz7_0
    try clear hcz7_1
    try clear hfz7_0
    try clear hfz7_1
    obtain ⟨x6_1, x17_1, rfl, rfl, HA, HK1, BK126, HB⟩ := hrel
    cases gk with
    | zero => exact absurd HA.out (by simp [runs_Put.l0])
    | succ k1 =>
     have H := HA.out
     clear HA
     simp only [runs_Put.l0] at H
     by_cases c9 : x17_1 < (l0.length : Int)
     ·rw [if_pos c9] at H
      have c9b0 : decide (x17_1 < (l0.length : Int)) = true := decide_eq_true c9
      clear c9
      (first | rw [c9b0] | (simp only [i64_w, i32_w]; rw [c9b0]) | skip)
      by_cases c10 : 0 ≤ x17_1
      ·rw [if_pos c10] at H
       have c10b0 : decide (0 ≤ x17_1) = true := decide_eq_true c10
       clear c10
       by_cases c11 : x17_1 < (l0.length : Int)
       ·rw [if_pos c11] at H
        have c11b0 : decide (x17_1 < (l0.length : Int)) = true := decide_eq_true c11
        clear c11
        replace H := Option.bind_eq_some_iff.mp H
        obtain ⟨t130, A120, H⟩ := H
        replace H : (if ((rd_T32 l0 x17_1).f0) ≥ t130 then (runs_Put.j1 k1 l0 x17_1 a1_0 a1_1) else ((runs_end.f ((rd_T32 l0 x17_1).f0) ((rd_T32 l0 x17_1).f1)).bind fun t131 => (if t131 > a1_0 then (some (([] : List (S32)), 4)) else (runs_Put.l0 k1 l0 x6_1 l0 (l0.length : Int) (wrap64 (x17_1 + 1)) a1_0 a1_1)))) = some (r1, r2) := H
        have A12 := aM A120
        clear A120
        by_cases c13 : ((rd_T32 l0 x17_1).f0) ≥ t130
        ·rw [if_pos c13] at H
         have c13b0 : decide (t130 ≤ ((rd_T32 l0 x17_1).f0)) = true := decide_eq_true c13
         clear c13
         have H' := aM H
         clear H
         have p128 : 0 ≤ (x17_1 : Int) := oD (by first | (with_reducible assumption) | assumption)
         have q128 : x17_1 < (l0.length : Int) := oD (by first | (with_reducible assumption) | assumption)
         obtain ⟨ad128, e128, hx128_0, hx128_1⟩ := at_T32 HR0.out x17_1 p128 q128
         cases e128
         replace hx128_0 := (HB.out.cell (wL w _ hx128_0)).trans hx128_0
         replace hx128_1 := (HB.out.cell (wL w _ hx128_1)).trans hx128_1
         replace p128 := eq_true p128
         replace q128 := eq_true q128
         try go_wp2_with (first|(with_reducible refine wp_scope_body ?_)|(go_step3)|((with_reducible refine gate_dst (N:=8) rfl ?_);refine box_event ?hg (N:=8) ?hd (cs:=#[.int .i64 0,.int .i64 0]) (t:=32) ?hr ?_;(case hd => rfl);(case hg => rfl);(case hr => first|(go_simp;done)|(go_simp;rfl));intro gb129 hg w14 hbox hb;have n0_:=aM (bB (g:=gb126) (o:=.cells #[.int .i64 a1_0,.int .i64 a1_1] 32 (0,0)) (by (with_reducible repeat (first|refine bN ?_ _|refine bD ?_|refine bA ?_ _));exact BK126.out) hb);have n1_:=aM (wT (by repeat (first|(with_reducible first|exact HB.out|apply wA|apply wN_|apply wD|refine wS ?_ GE126.out)|exact HB.out)) hb);have n2_:=aM (hbox);have n3_:=aM ((by rw [hg];exact (wZ (by repeat (first|(with_reducible first|exact HB.out|apply wA|apply wN_|apply wD|refine wS ?_ GE126.out)|exact HB.out))) : w.heap.size ≤ gb129));have n4_:=aM ((by rw [hg];exact (wZ (by repeat (first|(with_reducible first|exact HB.out|apply wA|apply wN_|apply wD|refine wS ?_ GE126.out)|exact HB.out))) : w.heap.size ≤ gb129));have n5_:=aM ((by rw [hg];exact Nat.ne_of_lt (bL (g:=gb126) (o:=.cells #[.int .i64 a1_0,.int .i64 a1_1] 32 (0,0)) (by (with_reducible repeat (first|refine bN ?_ _|refine bD ?_|refine bA ?_ _));exact BK126.out)) : gb126 ≠ gb129));have n6_:=aM ((by rw [hg];exact Nat.ne_of_gt (bL (g:=gb126) (o:=.cells #[.int .i64 a1_0,.int .i64 a1_1] 32 (0,0)) (by (with_reducible repeat (first|refine bN ?_ _|refine bD ?_|refine bA ?_ _));exact BK126.out)) : gb129 ≠ gb126));clear BK126;clear HB;have BK126:=n0_;have HB:=n1_;have BK129:=n2_;have GW129:=n3_;have GE129:=n4_;have NB126_129:=n5_;have NB129_126:=n6_;clear n0_ n1_ n2_ n3_ n4_ n5_ n6_;clear hb hbox hg;have hnb15:=NB129_126.out;have hnc15:=NB126_129.out;have hcz16_0 : w14.cell? ⟨gb129,0,none⟩ = some (.int .i64 0):=(bC BK129.out 0).trans rfl;have hcz16_1 : w14.cell? ⟨gb129,1,none⟩ = some (.int .i64 0):=(bC BK129.out 1).trans rfl;have hfz16_0:=bF BK129.out 0;have hfz16_1:=bF BK129.out 1))
         have n0_ : Aside0 (((w14.setCell ⟨gb129, 0, none⟩ (.int .i64 ((rd_T32 l0 x17_1).f0))).setCell ⟨gb129, 1, none⟩ (.int .i64 ((rd_T32 l0 x17_1).f1))).heap[gb126]? = some (.cells #[.int .i64 a1_0, .int .i64 a1_1] 32 (0, 0))) := ⟨by (with_reducible repeat (first | refine bN ?_ _ | refine bD ?_ | refine bA ?_ _)); refine bR ?_ NB126_129.out _; (with_reducible repeat (first | refine bN ?_ _ | refine bD ?_ | refine bA ?_ _)); refine bR ?_ NB126_129.out _; (with_reducible repeat (first | refine bN ?_ _ | refine bD ?_ | refine bA ?_ _)); exact BK126.out⟩
         have n1_ : Aside0 (((w14.setCell ⟨gb129, 0, none⟩ (.int .i64 ((rd_T32 l0 x17_1).f0))).setCell ⟨gb129, 1, none⟩ (.int .i64 ((rd_T32 l0 x17_1).f1))).heap[gb129]? = some (.cells #[.int .i64 ((rd_T32 l0 x17_1).f0), .int .i64 ((rd_T32 l0 x17_1).f1)] 32 (0, 0))) := ⟨by (with_reducible repeat (first | refine bN ?_ _ | refine bD ?_ | refine bA ?_ _)); refine bP (cs := #[.int .i64 ((rd_T32 l0 x17_1).f0), .int .i64 0]) ?_ 1 _ rfl; (with_reducible repeat (first | refine bN ?_ _ | refine bD ?_ | refine bA ?_ _)); refine bP (cs := #[.int .i64 0, .int .i64 0]) ?_ 0 _ rfl; (with_reducible repeat (first | refine bN ?_ _ | refine bD ?_ | refine bA ?_ _)); exact BK129.out⟩
         have n2_ : Aside0 (Below w.heap.size w ((w14.setCell ⟨gb129, 0, none⟩ (.int .i64 ((rd_T32 l0 x17_1).f0))).setCell ⟨gb129, 1, none⟩ (.int .i64 ((rd_T32 l0 x17_1).f1)))) := ⟨by repeat (first | (with_reducible first | exact HB.out | apply wA | apply wN_ | apply wD | refine wS ?_ GE126.out | refine wS ?_ GE129.out) | exact HB.out)⟩
         (try clear BK126)
         (try clear BK129)
         (try clear HB)
         generalize ((w14.setCell ⟨gb129, 0, none⟩ (.int .i64 ((rd_T32 l0 x17_1).f0))).setCell ⟨gb129, 1, none⟩ (.int .i64 ((rd_T32 l0 x17_1).f1))) = w17 at n0_ n1_ n2_ ⊢
         have BK126 := n0_
         have BK129 := n1_
         have HB := n2_
         clear n0_ n1_ n2_
         have n0_ := aM (bD BK126.out)
         have n1_ := aM (bD BK129.out)
         have n2_ := aM (wD HB.out)
         clear BK126
         clear BK129
         clear HB
         have BK126 := n0_
         have BK129 := n1_
         have HB := n2_
         clear n0_ n1_ n2_
         refine start_ (n := 6) (S := fun w' => w'.cell? ⟨gb129, 0, none⟩ = some (.int .i64 ((rd_T32 l0 x17_1).f0)) ∧ w'.cell? ⟨gb129, 1, none⟩ = some (.int .i64 ((rd_T32 l0 x17_1).f1)) ∧ w'.cell? ⟨gb126, 0, none⟩ = some (.int .i64 a1_0) ∧ w'.cell? ⟨gb126, 1, none⟩ = some (.int .i64 a1_1)) (ds := []) #[false, false, false, false, false, false] (by kernel_rfl) rfl rfl ⟨(bC BK129.out 0).trans rfl, (bC BK129.out 1).trans rfl, (bC BK126.out 0).trans rfl, (bC BK126.out 1).trans rfl⟩ (fun hHeld => ?_)
         generalize w17.drew = w18 at BK126 BK129 HB hHeld ⊢
         refine pure_ (i := 0) (N := some 23) (v := ?_) (a' := ?_) #[true, false, false, false, false, false] rfl rfl (by kernel_rfl) (fun _ _ _ h => h) (Or.inl ⟨by rfl, ?_⟩) ?_ ?_
         rotate_left
         ·intro w'
          go_simp
          with_reducible rfl
         rotate_left
         ·simp only [Act.put, lS, lZ, lU, i64_w, i32_w]
          rfl
         refine take_ (i := 1) (N := some 24) (v := ?_) (a' := ?_) #[true, true, false, false, false, false] rfl rfl (by kernel_rfl) (fun _ _ _ h => h) (Or.inl ⟨by rfl, ?_⟩) hHeld ?_ ?_
         rotate_left
         ·rintro w' ⟨s0, s1, s2, s3⟩
          go_simp
          with_reducible rfl
         rotate_left
         ·simp only [Act.put, lS, lZ, lU, i64_w, i32_w]
          rfl
         refine take_ (i := 2) (N := some 25) (v := ?_) (a' := ?_) #[true, true, true, false, false, false] rfl rfl (by kernel_rfl) (fun _ _ _ h => h) (Or.inl ⟨by rfl, ?_⟩) hHeld ?_ ?_
         rotate_left
         ·rintro w' ⟨s0, s1, s2, s3⟩
          go_simp
          with_reducible rfl
         rotate_left
         ·simp only [Act.put, lS, lZ, lU, i64_w, i32_w]
          rfl
         refine one_ (i := 3) (N := some 26) #[true, true, true, true, false, false] rfl rfl (by kernel_rfl) (by decide) (fun K hK => ?_)
         refine goes_ Try.func45 (by kernel_rfl) rfl #[.agg #[.int .i64 a1_0, .int .i64 a1_1]] (by rfl) rfl rfl (by (try simp only [lM, lC, lN]); first | done | rfl | (simp only [lD, lT]; rfl)) ?_
         with_reducible refine (runs_end.calls a1_0 a1_1 t130 _ A12.out).mono ?_
         rintro e w19 ⟨rfl, hb⟩
         refine ⟨_, rfl, ?_⟩
         have n0_ := aM (bB (g := gb126) (o := .cells #[.int .i64 a1_0, .int .i64 a1_1] 32 (0, 0)) (by (with_reducible repeat (first | refine bN ?_ _ | refine bD ?_ | refine bA ?_ _)); exact BK126.out) hb)
         have n1_ := aM (bB (g := gb129) (o := .cells #[.int .i64 ((rd_T32 l0 x17_1).f0), .int .i64 ((rd_T32 l0 x17_1).f1)] 32 (0, 0)) (by (with_reducible repeat (first | refine bN ?_ _ | refine bD ?_ | refine bA ?_ _)); exact BK129.out) hb)
         have n2_ := aM (wT (by repeat (first | (with_reducible first | exact HB.out | apply wA | apply wN_ | apply wD | refine wS ?_ GE126.out | refine wS ?_ GE129.out) | exact HB.out)) hb)
         clear BK126
         clear BK129
         clear HB
         have BK126 := n0_
         have BK129 := n1_
         have HB := n2_
         clear n0_ n1_ n2_
         (try clear hb)
         (try clear hb2)
         (try clear hk)
         (try clear hi)
         refine hK.out _ _ ⟨(bC BK129.out 0).trans rfl, (bC BK129.out 1).trans rfl, (bC BK126.out 0).trans rfl, (bC BK126.out 1).trans rfl⟩ (fun hHeld => ?_)
         clear hK K
         refine norm_ (a' := ?_) ?_ ?_
         rotate_left
         ·show Act.put _ (some 26) _ = _
          simp only [Act.put, lS, lZ, lU, i64_w, i32_w]
          rfl
         refine pure_ (i := 4) (N := some 27) (v := ?_) (a' := ?_) #[true, true, true, true, true, false] rfl rfl (by kernel_rfl) (fun _ _ _ h => h) (Or.inl ⟨by rfl, ?_⟩) ?_ ?_
         rotate_left
         ·intro w'
          go_simp
          with_reducible rfl
         rotate_left
         ·simp only [Act.put, lS, lZ, lU, i64_w, i32_w]
          rfl
         refine pure_ (i := 5) (N := some 22) (v := ?_) (a' := ?_) #[true, true, true, true, true, true] rfl rfl (by kernel_rfl) (fun _ _ _ h => h) (Or.inl ⟨by rfl, ?_⟩) ?_ ?_
         rotate_left
         ·intro w'
          go_simp
          with_reducible rfl
         rotate_left
         ·simp only [Act.put, lS, lZ, lU, i64_w, i32_w]
          rfl
         refine done_ (by kernel_rfl) ?_
         try go_wp2_with (first|(with_reducible refine wp_scope_body ?_)|(go_step3))
         go_meet
         case rel => exact ⟨_,(x17_1),(by first|rfl|(simp;done)|(simp [*];done)),H',⟨by have:=HK1.out;first|omega|exact Nat.le_refl _⟩,⟨by (with_reducible repeat (first|refine bN ?_ _|refine bD ?_|refine bA ?_ _));exact BK126.out⟩,⟨by repeat (first|(with_reducible first|exact HB.out|apply wA|apply wN_|apply wD|refine wS ?_ GE126.out|refine wS ?_ GE129.out)|exact HB.out)⟩⟩
        ·rw [if_neg c13] at H
         have c13b0 : decide (t130 ≤ ((rd_T32 l0 x17_1).f0)) = false := decide_eq_false c13
         clear c13
         replace H := Option.bind_eq_some_iff.mp H
         obtain ⟨t131, A200, H⟩ := H
         replace H : (if t131 > a1_0 then (some (([] : List (S32)), 4)) else (runs_Put.l0 k1 l0 x6_1 l0 (l0.length : Int) (wrap64 (x17_1 + 1)) a1_0 a1_1)) = some (r1, r2) := H
         have A20 := aM A200
         clear A200
         by_cases c21 : t131 > a1_0
         ·rw [if_pos c21] at H
          have c21b0 : decide (a1_0 < t131) = true := decide_eq_true c21
          clear c21
          simp only [Option.some.injEq, Prod.mk.injEq] at H
          obtain ⟨rfl, rfl⟩ := H
          have p128 : 0 ≤ (x17_1 : Int) := oD (by first | (with_reducible assumption) | assumption)
          have q128 : x17_1 < (l0.length : Int) := oD (by first | (with_reducible assumption) | assumption)
          obtain ⟨ad128, e128, hx128_0, hx128_1⟩ := at_T32 HR0.out x17_1 p128 q128
          cases e128
          replace hx128_0 := (HB.out.cell (wL w _ hx128_0)).trans hx128_0
          replace hx128_1 := (HB.out.cell (wL w _ hx128_1)).trans hx128_1
          replace p128 := eq_true p128
          replace q128 := eq_true q128
          try go_wp2_with (first|(with_reducible refine wp_scope_body ?_)|(go_step3)|((with_reducible refine gate_dst (N:=8) rfl ?_);refine box_event ?hg (N:=8) ?hd (cs:=#[.int .i64 0,.int .i64 0]) (t:=32) ?hr ?_;(case hd => rfl);(case hg => rfl);(case hr => first|(go_simp;done)|(go_simp;rfl));intro gb129 hg w22 hbox hb;have n0_:=aM (bB (g:=gb126) (o:=.cells #[.int .i64 a1_0,.int .i64 a1_1] 32 (0,0)) (by (with_reducible repeat (first|refine bN ?_ _|refine bD ?_|refine bA ?_ _));exact BK126.out) hb);have n1_:=aM (wT (by repeat (first|(with_reducible first|exact HB.out|apply wA|apply wN_|apply wD|refine wS ?_ GE126.out)|exact HB.out)) hb);have n2_:=aM (hbox);have n3_:=aM ((by rw [hg];exact (wZ (by repeat (first|(with_reducible first|exact HB.out|apply wA|apply wN_|apply wD|refine wS ?_ GE126.out)|exact HB.out))) : w.heap.size ≤ gb129));have n4_:=aM ((by rw [hg];exact (wZ (by repeat (first|(with_reducible first|exact HB.out|apply wA|apply wN_|apply wD|refine wS ?_ GE126.out)|exact HB.out))) : w.heap.size ≤ gb129));have n5_:=aM ((by rw [hg];exact Nat.ne_of_lt (bL (g:=gb126) (o:=.cells #[.int .i64 a1_0,.int .i64 a1_1] 32 (0,0)) (by (with_reducible repeat (first|refine bN ?_ _|refine bD ?_|refine bA ?_ _));exact BK126.out)) : gb126 ≠ gb129));have n6_:=aM ((by rw [hg];exact Nat.ne_of_gt (bL (g:=gb126) (o:=.cells #[.int .i64 a1_0,.int .i64 a1_1] 32 (0,0)) (by (with_reducible repeat (first|refine bN ?_ _|refine bD ?_|refine bA ?_ _));exact BK126.out)) : gb129 ≠ gb126));clear BK126;clear HB;have BK126:=n0_;have HB:=n1_;have BK129:=n2_;have GW129:=n3_;have GE129:=n4_;have NB126_129:=n5_;have NB129_126:=n6_;clear n0_ n1_ n2_ n3_ n4_ n5_ n6_;clear hb hbox hg;have hnb23:=NB129_126.out;have hnc23:=NB126_129.out;have hcz24_0 : w22.cell? ⟨gb129,0,none⟩ = some (.int .i64 0):=(bC BK129.out 0).trans rfl;have hcz24_1 : w22.cell? ⟨gb129,1,none⟩ = some (.int .i64 0):=(bC BK129.out 1).trans rfl;have hfz24_0:=bF BK129.out 0;have hfz24_1:=bF BK129.out 1))
          have n0_ : Aside0 (((w22.setCell ⟨gb129, 0, none⟩ (.int .i64 ((rd_T32 l0 x17_1).f0))).setCell ⟨gb129, 1, none⟩ (.int .i64 ((rd_T32 l0 x17_1).f1))).heap[gb126]? = some (.cells #[.int .i64 a1_0, .int .i64 a1_1] 32 (0, 0))) := ⟨by (with_reducible repeat (first | refine bN ?_ _ | refine bD ?_ | refine bA ?_ _)); refine bR ?_ NB126_129.out _; (with_reducible repeat (first | refine bN ?_ _ | refine bD ?_ | refine bA ?_ _)); refine bR ?_ NB126_129.out _; (with_reducible repeat (first | refine bN ?_ _ | refine bD ?_ | refine bA ?_ _)); exact BK126.out⟩
          have n1_ : Aside0 (((w22.setCell ⟨gb129, 0, none⟩ (.int .i64 ((rd_T32 l0 x17_1).f0))).setCell ⟨gb129, 1, none⟩ (.int .i64 ((rd_T32 l0 x17_1).f1))).heap[gb129]? = some (.cells #[.int .i64 ((rd_T32 l0 x17_1).f0), .int .i64 ((rd_T32 l0 x17_1).f1)] 32 (0, 0))) := ⟨by (with_reducible repeat (first | refine bN ?_ _ | refine bD ?_ | refine bA ?_ _)); refine bP (cs := #[.int .i64 ((rd_T32 l0 x17_1).f0), .int .i64 0]) ?_ 1 _ rfl; (with_reducible repeat (first | refine bN ?_ _ | refine bD ?_ | refine bA ?_ _)); refine bP (cs := #[.int .i64 0, .int .i64 0]) ?_ 0 _ rfl; (with_reducible repeat (first | refine bN ?_ _ | refine bD ?_ | refine bA ?_ _)); exact BK129.out⟩
          have n2_ : Aside0 (Below w.heap.size w ((w22.setCell ⟨gb129, 0, none⟩ (.int .i64 ((rd_T32 l0 x17_1).f0))).setCell ⟨gb129, 1, none⟩ (.int .i64 ((rd_T32 l0 x17_1).f1)))) := ⟨by repeat (first | (with_reducible first | exact HB.out | apply wA | apply wN_ | apply wD | refine wS ?_ GE126.out | refine wS ?_ GE129.out) | exact HB.out)⟩
          (try clear BK126)
          (try clear BK129)
          (try clear HB)
          generalize ((w22.setCell ⟨gb129, 0, none⟩ (.int .i64 ((rd_T32 l0 x17_1).f0))).setCell ⟨gb129, 1, none⟩ (.int .i64 ((rd_T32 l0 x17_1).f1))) = w25 at n0_ n1_ n2_ ⊢
          have BK126 := n0_
          have BK129 := n1_
          have HB := n2_
          clear n0_ n1_ n2_
          have n0_ := aM (bD BK126.out)
          have n1_ := aM (bD BK129.out)
          have n2_ := aM (wD HB.out)
          clear BK126
          clear BK129
          clear HB
          have BK126 := n0_
          have BK129 := n1_
          have HB := n2_
          clear n0_ n1_ n2_
          refine start_ (n := 6) (S := fun w' => w'.cell? ⟨gb129, 0, none⟩ = some (.int .i64 ((rd_T32 l0 x17_1).f0)) ∧ w'.cell? ⟨gb129, 1, none⟩ = some (.int .i64 ((rd_T32 l0 x17_1).f1)) ∧ w'.cell? ⟨gb126, 0, none⟩ = some (.int .i64 a1_0) ∧ w'.cell? ⟨gb126, 1, none⟩ = some (.int .i64 a1_1)) (ds := []) #[false, false, false, false, false, false] (by kernel_rfl) rfl rfl ⟨(bC BK129.out 0).trans rfl, (bC BK129.out 1).trans rfl, (bC BK126.out 0).trans rfl, (bC BK126.out 1).trans rfl⟩ (fun hHeld => ?_)
          generalize w25.drew = w26 at BK126 BK129 HB hHeld ⊢
          refine pure_ (i := 0) (N := some 23) (v := ?_) (a' := ?_) #[true, false, false, false, false, false] rfl rfl (by kernel_rfl) (fun _ _ _ h => h) (Or.inl ⟨by rfl, ?_⟩) ?_ ?_
          rotate_left
          ·intro w'
           go_simp
           with_reducible rfl
          rotate_left
          ·simp only [Act.put, lS, lZ, lU, i64_w, i32_w]
           rfl
          refine take_ (i := 1) (N := some 24) (v := ?_) (a' := ?_) #[true, true, false, false, false, false] rfl rfl (by kernel_rfl) (fun _ _ _ h => h) (Or.inl ⟨by rfl, ?_⟩) hHeld ?_ ?_
          rotate_left
          ·rintro w' ⟨s0, s1, s2, s3⟩
           go_simp
           with_reducible rfl
          rotate_left
          ·simp only [Act.put, lS, lZ, lU, i64_w, i32_w]
           rfl
          refine take_ (i := 2) (N := some 25) (v := ?_) (a' := ?_) #[true, true, true, false, false, false] rfl rfl (by kernel_rfl) (fun _ _ _ h => h) (Or.inl ⟨by rfl, ?_⟩) hHeld ?_ ?_
          rotate_left
          ·rintro w' ⟨s0, s1, s2, s3⟩
           go_simp
           with_reducible rfl
          rotate_left
          ·simp only [Act.put, lS, lZ, lU, i64_w, i32_w]
           rfl
          refine one_ (i := 3) (N := some 26) #[true, true, true, true, false, false] rfl rfl (by kernel_rfl) (by decide) (fun K hK => ?_)
          refine goes_ Try.func45 (by kernel_rfl) rfl #[.agg #[.int .i64 a1_0, .int .i64 a1_1]] (by rfl) rfl rfl (by (try simp only [lM, lC, lN]); first | done | rfl | (simp only [lD, lT]; rfl)) ?_
          with_reducible refine (runs_end.calls a1_0 a1_1 t130 _ A12.out).mono ?_
          rintro e w27 ⟨rfl, hb⟩
          refine ⟨_, rfl, ?_⟩
          have n0_ := aM (bB (g := gb126) (o := .cells #[.int .i64 a1_0, .int .i64 a1_1] 32 (0, 0)) (by (with_reducible repeat (first | refine bN ?_ _ | refine bD ?_ | refine bA ?_ _)); exact BK126.out) hb)
          have n1_ := aM (bB (g := gb129) (o := .cells #[.int .i64 ((rd_T32 l0 x17_1).f0), .int .i64 ((rd_T32 l0 x17_1).f1)] 32 (0, 0)) (by (with_reducible repeat (first | refine bN ?_ _ | refine bD ?_ | refine bA ?_ _)); exact BK129.out) hb)
          have n2_ := aM (wT (by repeat (first | (with_reducible first | exact HB.out | apply wA | apply wN_ | apply wD | refine wS ?_ GE126.out | refine wS ?_ GE129.out) | exact HB.out)) hb)
          clear BK126
          clear BK129
          clear HB
          have BK126 := n0_
          have BK129 := n1_
          have HB := n2_
          clear n0_ n1_ n2_
          (try clear hb)
          (try clear hb2)
          (try clear hk)
          (try clear hi)
          refine hK.out _ _ ⟨(bC BK129.out 0).trans rfl, (bC BK129.out 1).trans rfl, (bC BK126.out 0).trans rfl, (bC BK126.out 1).trans rfl⟩ (fun hHeld => ?_)
          clear hK K
          refine norm_ (a' := ?_) ?_ ?_
          rotate_left
          ·show Act.put _ (some 26) _ = _
           simp only [Act.put, lS, lZ, lU, i64_w, i32_w]
           rfl
          refine pure_ (i := 4) (N := some 27) (v := ?_) (a' := ?_) #[true, true, true, true, true, false] rfl rfl (by kernel_rfl) (fun _ _ _ h => h) (Or.inl ⟨by rfl, ?_⟩) ?_ ?_
          rotate_left
          ·intro w'
           go_simp
           with_reducible rfl
          rotate_left
          ·simp only [Act.put, lS, lZ, lU, i64_w, i32_w]
           rfl
          refine pure_ (i := 5) (N := some 22) (v := ?_) (a' := ?_) #[true, true, true, true, true, true] rfl rfl (by kernel_rfl) (fun _ _ _ h => h) (Or.inl ⟨by rfl, ?_⟩) ?_ ?_
          rotate_left
          ·intro w'
           go_simp
           with_reducible rfl
          rotate_left
          ·simp only [Act.put, lS, lZ, lU, i64_w, i32_w]
           rfl
          refine done_ (by kernel_rfl) ?_
          try go_wp2_with (first|(with_reducible refine wp_scope_body ?_)|(go_step3))
          have n0_ := aM (bD BK126.out)
          have n1_ := aM (bD BK129.out)
          have n2_ := aM (wD HB.out)
          clear BK126
          clear BK129
          clear HB
          have BK126 := n0_
          have BK129 := n1_
          have HB := n2_
          clear n0_ n1_ n2_
          refine start_ (n := 6) (S := fun w' => w'.cell? ⟨gb129, 0, none⟩ = some (.int .i64 ((rd_T32 l0 x17_1).f0)) ∧ w'.cell? ⟨gb129, 1, none⟩ = some (.int .i64 ((rd_T32 l0 x17_1).f1)) ∧ w'.cell? ⟨gb126, 0, none⟩ = some (.int .i64 a1_0) ∧ w'.cell? ⟨gb126, 1, none⟩ = some (.int .i64 a1_1)) (ds := []) #[false, false, false, false, false, false] (by kernel_rfl) rfl rfl ⟨(bC BK129.out 0).trans rfl, (bC BK129.out 1).trans rfl, (bC BK126.out 0).trans rfl, (bC BK126.out 1).trans rfl⟩ (fun hHeld => ?_)
          generalize w27.drew = w28 at BK126 BK129 HB hHeld ⊢
          refine pure_ (i := 2) (N := some 32) (v := ?_) (a' := ?_) #[false, false, true, false, false, false] rfl rfl (by kernel_rfl) (fun _ _ _ h => h) (Or.inl ⟨by rfl, ?_⟩) ?_ ?_
          rotate_left
          ·intro w'
           go_simp
           with_reducible rfl
          rotate_left
          ·simp only [Act.put, lS, lZ, lU, i64_w, i32_w]
           rfl
          refine take_ (i := 0) (N := some 30) (v := ?_) (a' := ?_) #[true, false, true, false, false, false] rfl rfl (by kernel_rfl) (fun _ _ _ h => h) (Or.inl ⟨by rfl, ?_⟩) hHeld ?_ ?_
          rotate_left
          ·rintro w' ⟨s0, s1, s2, s3⟩
           go_simp
           with_reducible rfl
          rotate_left
          ·simp only [Act.put, lS, lZ, lU, i64_w, i32_w]
           rfl
          refine take_ (i := 3) (N := some 33) (v := ?_) (a' := ?_) #[true, false, true, true, false, false] rfl rfl (by kernel_rfl) (fun _ _ _ h => h) (Or.inl ⟨by rfl, ?_⟩) hHeld ?_ ?_
          rotate_left
          ·rintro w' ⟨s0, s1, s2, s3⟩
           go_simp
           with_reducible rfl
          rotate_left
          ·simp only [Act.put, lS, lZ, lU, i64_w, i32_w]
           rfl
          refine one_ (i := 1) (N := some 31) #[true, true, true, true, false, false] rfl rfl (by kernel_rfl) (by decide) (fun K hK => ?_)
          refine goes_ Try.func45 (by kernel_rfl) rfl #[.agg #[.int .i64 ((rd_T32 l0 x17_1).f0), .int .i64 ((rd_T32 l0 x17_1).f1)]] (by rfl) rfl rfl (by (try simp only [lM, lC, lN]); first | done | rfl | (simp only [lD, lT]; rfl)) ?_
          with_reducible refine (runs_end.calls ((rd_T32 l0 x17_1).f0) ((rd_T32 l0 x17_1).f1) t131 _ A20.out).mono ?_
          rintro e w29 ⟨rfl, hb⟩
          refine ⟨_, rfl, ?_⟩
          have n0_ := aM (bB (g := gb126) (o := .cells #[.int .i64 a1_0, .int .i64 a1_1] 32 (0, 0)) (by (with_reducible repeat (first | refine bN ?_ _ | refine bD ?_ | refine bA ?_ _)); exact BK126.out) hb)
          have n1_ := aM (bB (g := gb129) (o := .cells #[.int .i64 ((rd_T32 l0 x17_1).f0), .int .i64 ((rd_T32 l0 x17_1).f1)] 32 (0, 0)) (by (with_reducible repeat (first | refine bN ?_ _ | refine bD ?_ | refine bA ?_ _)); exact BK129.out) hb)
          have n2_ := aM (wT (by repeat (first | (with_reducible first | exact HB.out | apply wA | apply wN_ | apply wD | refine wS ?_ GE126.out | refine wS ?_ GE129.out) | exact HB.out)) hb)
          clear BK126
          clear BK129
          clear HB
          have BK126 := n0_
          have BK129 := n1_
          have HB := n2_
          clear n0_ n1_ n2_
          (try clear hb)
          (try clear hb2)
          (try clear hk)
          (try clear hi)
          refine hK.out _ _ ⟨(bC BK129.out 0).trans rfl, (bC BK129.out 1).trans rfl, (bC BK126.out 0).trans rfl, (bC BK126.out 1).trans rfl⟩ (fun hHeld => ?_)
          clear hK K
          refine norm_ (a' := ?_) ?_ ?_
          rotate_left
          ·show Act.put _ (some 31) _ = _
           simp only [Act.put, lS, lZ, lU, i64_w, i32_w]
           rfl
          refine pure_ (i := 4) (N := some 34) (v := ?_) (a' := ?_) #[true, true, true, true, true, false] rfl rfl (by kernel_rfl) (fun _ _ _ h => h) (Or.inl ⟨by rfl, ?_⟩) ?_ ?_
          rotate_left
          ·intro w'
           go_simp
           with_reducible rfl
          rotate_left
          ·simp only [Act.put, lS, lZ, lU, i64_w, i32_w]
           rfl
          refine pure_ (i := 5) (N := some 29) (v := ?_) (a' := ?_) #[true, true, true, true, true, true] rfl rfl (by kernel_rfl) (fun _ _ _ h => h) (Or.inl ⟨by rfl, ?_⟩) ?_ ?_
          rotate_left
          ·intro w'
           go_simp
           with_reducible rfl
          rotate_left
          ·simp only [Act.put, lS, lZ, lU, i64_w, i32_w]
           rfl
          refine done_ (by kernel_rfl) ?_
          try go_wp2_with (first|(with_reducible refine wp_scope_body ?_)|(go_step3))
          go_ret2
          exact ⟨_, by first | rfl | (simp [errW_none, errW_some] <;> rfl) | (simp [*, errW_none, errW_some] <;> rfl), by first | exact Kd.R_nil _ _ _ _ _ | exact Kd.N_nil _ _ _ _ _ | exact Kd.V_nil _ _ _ _ _ | exact Kd.Q_nil _ _ _ _ _ | exact Kd.S_nil _ _ _ _ _, by repeat (first | (with_reducible first | exact HB.out | apply wA | apply wN_ | apply wD | refine wS ?_ GE126.out | refine wS ?_ GE129.out) | exact HB.out)⟩
         ·rw [if_neg c21] at H
          have c21b0 : decide (a1_0 < t131) = false := decide_eq_false c21
          clear c21
          have H' := aM H
          clear H
          have p128 : 0 ≤ (x17_1 : Int) := oD (by first | (with_reducible assumption) | assumption)
          have q128 : x17_1 < (l0.length : Int) := oD (by first | (with_reducible assumption) | assumption)
          obtain ⟨ad128, e128, hx128_0, hx128_1⟩ := at_T32 HR0.out x17_1 p128 q128
          cases e128
          replace hx128_0 := (HB.out.cell (wL w _ hx128_0)).trans hx128_0
          replace hx128_1 := (HB.out.cell (wL w _ hx128_1)).trans hx128_1
          replace p128 := eq_true p128
          replace q128 := eq_true q128
          try go_wp2_with (first|(with_reducible refine wp_scope_body ?_)|(go_step3)|((with_reducible refine gate_dst (N:=8) rfl ?_);refine box_event ?hg (N:=8) ?hd (cs:=#[.int .i64 0,.int .i64 0]) (t:=32) ?hr ?_;(case hd => rfl);(case hg => rfl);(case hr => first|(go_simp;done)|(go_simp;rfl));intro gb129 hg w30 hbox hb;have n0_:=aM (bB (g:=gb126) (o:=.cells #[.int .i64 a1_0,.int .i64 a1_1] 32 (0,0)) (by (with_reducible repeat (first|refine bN ?_ _|refine bD ?_|refine bA ?_ _));exact BK126.out) hb);have n1_:=aM (wT (by repeat (first|(with_reducible first|exact HB.out|apply wA|apply wN_|apply wD|refine wS ?_ GE126.out)|exact HB.out)) hb);have n2_:=aM (hbox);have n3_:=aM ((by rw [hg];exact (wZ (by repeat (first|(with_reducible first|exact HB.out|apply wA|apply wN_|apply wD|refine wS ?_ GE126.out)|exact HB.out))) : w.heap.size ≤ gb129));have n4_:=aM ((by rw [hg];exact (wZ (by repeat (first|(with_reducible first|exact HB.out|apply wA|apply wN_|apply wD|refine wS ?_ GE126.out)|exact HB.out))) : w.heap.size ≤ gb129));have n5_:=aM ((by rw [hg];exact Nat.ne_of_lt (bL (g:=gb126) (o:=.cells #[.int .i64 a1_0,.int .i64 a1_1] 32 (0,0)) (by (with_reducible repeat (first|refine bN ?_ _|refine bD ?_|refine bA ?_ _));exact BK126.out)) : gb126 ≠ gb129));have n6_:=aM ((by rw [hg];exact Nat.ne_of_gt (bL (g:=gb126) (o:=.cells #[.int .i64 a1_0,.int .i64 a1_1] 32 (0,0)) (by (with_reducible repeat (first|refine bN ?_ _|refine bD ?_|refine bA ?_ _));exact BK126.out)) : gb129 ≠ gb126));clear BK126;clear HB;have BK126:=n0_;have HB:=n1_;have BK129:=n2_;have GW129:=n3_;have GE129:=n4_;have NB126_129:=n5_;have NB129_126:=n6_;clear n0_ n1_ n2_ n3_ n4_ n5_ n6_;clear hb hbox hg;have hnb31:=NB129_126.out;have hnc31:=NB126_129.out;have hcz32_0 : w30.cell? ⟨gb129,0,none⟩ = some (.int .i64 0):=(bC BK129.out 0).trans rfl;have hcz32_1 : w30.cell? ⟨gb129,1,none⟩ = some (.int .i64 0):=(bC BK129.out 1).trans rfl;have hfz32_0:=bF BK129.out 0;have hfz32_1:=bF BK129.out 1))
          have n0_ : Aside0 (((w30.setCell ⟨gb129, 0, none⟩ (.int .i64 ((rd_T32 l0 x17_1).f0))).setCell ⟨gb129, 1, none⟩ (.int .i64 ((rd_T32 l0 x17_1).f1))).heap[gb126]? = some (.cells #[.int .i64 a1_0, .int .i64 a1_1] 32 (0, 0))) := ⟨by (with_reducible repeat (first | refine bN ?_ _ | refine bD ?_ | refine bA ?_ _)); refine bR ?_ NB126_129.out _; (with_reducible repeat (first | refine bN ?_ _ | refine bD ?_ | refine bA ?_ _)); refine bR ?_ NB126_129.out _; (with_reducible repeat (first | refine bN ?_ _ | refine bD ?_ | refine bA ?_ _)); exact BK126.out⟩
          have n1_ : Aside0 (((w30.setCell ⟨gb129, 0, none⟩ (.int .i64 ((rd_T32 l0 x17_1).f0))).setCell ⟨gb129, 1, none⟩ (.int .i64 ((rd_T32 l0 x17_1).f1))).heap[gb129]? = some (.cells #[.int .i64 ((rd_T32 l0 x17_1).f0), .int .i64 ((rd_T32 l0 x17_1).f1)] 32 (0, 0))) := ⟨by (with_reducible repeat (first | refine bN ?_ _ | refine bD ?_ | refine bA ?_ _)); refine bP (cs := #[.int .i64 ((rd_T32 l0 x17_1).f0), .int .i64 0]) ?_ 1 _ rfl; (with_reducible repeat (first | refine bN ?_ _ | refine bD ?_ | refine bA ?_ _)); refine bP (cs := #[.int .i64 0, .int .i64 0]) ?_ 0 _ rfl; (with_reducible repeat (first | refine bN ?_ _ | refine bD ?_ | refine bA ?_ _)); exact BK129.out⟩
          have n2_ : Aside0 (Below w.heap.size w ((w30.setCell ⟨gb129, 0, none⟩ (.int .i64 ((rd_T32 l0 x17_1).f0))).setCell ⟨gb129, 1, none⟩ (.int .i64 ((rd_T32 l0 x17_1).f1)))) := ⟨by repeat (first | (with_reducible first | exact HB.out | apply wA | apply wN_ | apply wD | refine wS ?_ GE126.out | refine wS ?_ GE129.out) | exact HB.out)⟩
          (try clear BK126)
          (try clear BK129)
          (try clear HB)
          generalize ((w30.setCell ⟨gb129, 0, none⟩ (.int .i64 ((rd_T32 l0 x17_1).f0))).setCell ⟨gb129, 1, none⟩ (.int .i64 ((rd_T32 l0 x17_1).f1))) = w33 at n0_ n1_ n2_ ⊢
          have BK126 := n0_
          have BK129 := n1_
          have HB := n2_
          clear n0_ n1_ n2_
          have n0_ := aM (bD BK126.out)
          have n1_ := aM (bD BK129.out)
          have n2_ := aM (wD HB.out)
          clear BK126
          clear BK129
          clear HB
          have BK126 := n0_
          have BK129 := n1_
          have HB := n2_
          clear n0_ n1_ n2_
          refine start_ (n := 6) (S := fun w' => w'.cell? ⟨gb129, 0, none⟩ = some (.int .i64 ((rd_T32 l0 x17_1).f0)) ∧ w'.cell? ⟨gb129, 1, none⟩ = some (.int .i64 ((rd_T32 l0 x17_1).f1)) ∧ w'.cell? ⟨gb126, 0, none⟩ = some (.int .i64 a1_0) ∧ w'.cell? ⟨gb126, 1, none⟩ = some (.int .i64 a1_1)) (ds := []) #[false, false, false, false, false, false] (by kernel_rfl) rfl rfl ⟨(bC BK129.out 0).trans rfl, (bC BK129.out 1).trans rfl, (bC BK126.out 0).trans rfl, (bC BK126.out 1).trans rfl⟩ (fun hHeld => ?_)
          generalize w33.drew = w34 at BK126 BK129 HB hHeld ⊢
          refine pure_ (i := 0) (N := some 23) (v := ?_) (a' := ?_) #[true, false, false, false, false, false] rfl rfl (by kernel_rfl) (fun _ _ _ h => h) (Or.inl ⟨by rfl, ?_⟩) ?_ ?_
          rotate_left
          ·intro w'
           go_simp
           with_reducible rfl
          rotate_left
          ·simp only [Act.put, lS, lZ, lU, i64_w, i32_w]
           rfl
          refine take_ (i := 1) (N := some 24) (v := ?_) (a' := ?_) #[true, true, false, false, false, false] rfl rfl (by kernel_rfl) (fun _ _ _ h => h) (Or.inl ⟨by rfl, ?_⟩) hHeld ?_ ?_
          rotate_left
          ·rintro w' ⟨s0, s1, s2, s3⟩
           go_simp
           with_reducible rfl
          rotate_left
          ·simp only [Act.put, lS, lZ, lU, i64_w, i32_w]
           rfl
          refine take_ (i := 2) (N := some 25) (v := ?_) (a' := ?_) #[true, true, true, false, false, false] rfl rfl (by kernel_rfl) (fun _ _ _ h => h) (Or.inl ⟨by rfl, ?_⟩) hHeld ?_ ?_
          rotate_left
          ·rintro w' ⟨s0, s1, s2, s3⟩
           go_simp
           with_reducible rfl
          rotate_left
          ·simp only [Act.put, lS, lZ, lU, i64_w, i32_w]
           rfl
          refine one_ (i := 3) (N := some 26) #[true, true, true, true, false, false] rfl rfl (by kernel_rfl) (by decide) (fun K hK => ?_)
          refine goes_ Try.func45 (by kernel_rfl) rfl #[.agg #[.int .i64 a1_0, .int .i64 a1_1]] (by rfl) rfl rfl (by (try simp only [lM, lC, lN]); first | done | rfl | (simp only [lD, lT]; rfl)) ?_
          with_reducible refine (runs_end.calls a1_0 a1_1 t130 _ A12.out).mono ?_
          rintro e w35 ⟨rfl, hb⟩
          refine ⟨_, rfl, ?_⟩
          have n0_ := aM (bB (g := gb126) (o := .cells #[.int .i64 a1_0, .int .i64 a1_1] 32 (0, 0)) (by (with_reducible repeat (first | refine bN ?_ _ | refine bD ?_ | refine bA ?_ _)); exact BK126.out) hb)
          have n1_ := aM (bB (g := gb129) (o := .cells #[.int .i64 ((rd_T32 l0 x17_1).f0), .int .i64 ((rd_T32 l0 x17_1).f1)] 32 (0, 0)) (by (with_reducible repeat (first | refine bN ?_ _ | refine bD ?_ | refine bA ?_ _)); exact BK129.out) hb)
          have n2_ := aM (wT (by repeat (first | (with_reducible first | exact HB.out | apply wA | apply wN_ | apply wD | refine wS ?_ GE126.out | refine wS ?_ GE129.out) | exact HB.out)) hb)
          clear BK126
          clear BK129
          clear HB
          have BK126 := n0_
          have BK129 := n1_
          have HB := n2_
          clear n0_ n1_ n2_
          (try clear hb)
          (try clear hb2)
          (try clear hk)
          (try clear hi)
          refine hK.out _ _ ⟨(bC BK129.out 0).trans rfl, (bC BK129.out 1).trans rfl, (bC BK126.out 0).trans rfl, (bC BK126.out 1).trans rfl⟩ (fun hHeld => ?_)
          clear hK K
          refine norm_ (a' := ?_) ?_ ?_
          rotate_left
          ·show Act.put _ (some 26) _ = _
           simp only [Act.put, lS, lZ, lU, i64_w, i32_w]
           rfl
          refine pure_ (i := 4) (N := some 27) (v := ?_) (a' := ?_) #[true, true, true, true, true, false] rfl rfl (by kernel_rfl) (fun _ _ _ h => h) (Or.inl ⟨by rfl, ?_⟩) ?_ ?_
          rotate_left
          ·intro w'
           go_simp
           with_reducible rfl
          rotate_left
          ·simp only [Act.put, lS, lZ, lU, i64_w, i32_w]
           rfl
          refine pure_ (i := 5) (N := some 22) (v := ?_) (a' := ?_) #[true, true, true, true, true, true] rfl rfl (by kernel_rfl) (fun _ _ _ h => h) (Or.inl ⟨by rfl, ?_⟩) ?_ ?_
          rotate_left
          ·intro w'
           go_simp
           with_reducible rfl
          rotate_left
          ·simp only [Act.put, lS, lZ, lU, i64_w, i32_w]
           rfl
          refine done_ (by kernel_rfl) ?_
          try go_wp2_with (first|(with_reducible refine wp_scope_body ?_)|(go_step3))
          have n0_ := aM (bD BK126.out)
          have n1_ := aM (bD BK129.out)
          have n2_ := aM (wD HB.out)
          clear BK126
          clear BK129
          clear HB
          have BK126 := n0_
          have BK129 := n1_
          have HB := n2_
          clear n0_ n1_ n2_
          refine start_ (n := 6) (S := fun w' => w'.cell? ⟨gb129, 0, none⟩ = some (.int .i64 ((rd_T32 l0 x17_1).f0)) ∧ w'.cell? ⟨gb129, 1, none⟩ = some (.int .i64 ((rd_T32 l0 x17_1).f1)) ∧ w'.cell? ⟨gb126, 0, none⟩ = some (.int .i64 a1_0) ∧ w'.cell? ⟨gb126, 1, none⟩ = some (.int .i64 a1_1)) (ds := []) #[false, false, false, false, false, false] (by kernel_rfl) rfl rfl ⟨(bC BK129.out 0).trans rfl, (bC BK129.out 1).trans rfl, (bC BK126.out 0).trans rfl, (bC BK126.out 1).trans rfl⟩ (fun hHeld => ?_)
          generalize w35.drew = w36 at BK126 BK129 HB hHeld ⊢
          refine pure_ (i := 2) (N := some 32) (v := ?_) (a' := ?_) #[false, false, true, false, false, false] rfl rfl (by kernel_rfl) (fun _ _ _ h => h) (Or.inl ⟨by rfl, ?_⟩) ?_ ?_
          rotate_left
          ·intro w'
           go_simp
           with_reducible rfl
          rotate_left
          ·simp only [Act.put, lS, lZ, lU, i64_w, i32_w]
           rfl
          refine take_ (i := 0) (N := some 30) (v := ?_) (a' := ?_) #[true, false, true, false, false, false] rfl rfl (by kernel_rfl) (fun _ _ _ h => h) (Or.inl ⟨by rfl, ?_⟩) hHeld ?_ ?_
          rotate_left
          ·rintro w' ⟨s0, s1, s2, s3⟩
           go_simp
           with_reducible rfl
          rotate_left
          ·simp only [Act.put, lS, lZ, lU, i64_w, i32_w]
           rfl
          refine take_ (i := 3) (N := some 33) (v := ?_) (a' := ?_) #[true, false, true, true, false, false] rfl rfl (by kernel_rfl) (fun _ _ _ h => h) (Or.inl ⟨by rfl, ?_⟩) hHeld ?_ ?_
          rotate_left
          ·rintro w' ⟨s0, s1, s2, s3⟩
           go_simp
           with_reducible rfl
          rotate_left
          ·simp only [Act.put, lS, lZ, lU, i64_w, i32_w]
           rfl
          refine one_ (i := 1) (N := some 31) #[true, true, true, true, false, false] rfl rfl (by kernel_rfl) (by decide) (fun K hK => ?_)
          refine goes_ Try.func45 (by kernel_rfl) rfl #[.agg #[.int .i64 ((rd_T32 l0 x17_1).f0), .int .i64 ((rd_T32 l0 x17_1).f1)]] (by rfl) rfl rfl (by (try simp only [lM, lC, lN]); first | done | rfl | (simp only [lD, lT]; rfl)) ?_
          with_reducible refine (runs_end.calls ((rd_T32 l0 x17_1).f0) ((rd_T32 l0 x17_1).f1) t131 _ A20.out).mono ?_
          rintro e w37 ⟨rfl, hb⟩
          refine ⟨_, rfl, ?_⟩
          have n0_ := aM (bB (g := gb126) (o := .cells #[.int .i64 a1_0, .int .i64 a1_1] 32 (0, 0)) (by (with_reducible repeat (first | refine bN ?_ _ | refine bD ?_ | refine bA ?_ _)); exact BK126.out) hb)
          have n1_ := aM (bB (g := gb129) (o := .cells #[.int .i64 ((rd_T32 l0 x17_1).f0), .int .i64 ((rd_T32 l0 x17_1).f1)] 32 (0, 0)) (by (with_reducible repeat (first | refine bN ?_ _ | refine bD ?_ | refine bA ?_ _)); exact BK129.out) hb)
          have n2_ := aM (wT (by repeat (first | (with_reducible first | exact HB.out | apply wA | apply wN_ | apply wD | refine wS ?_ GE126.out | refine wS ?_ GE129.out) | exact HB.out)) hb)
          clear BK126
          clear BK129
          clear HB
          have BK126 := n0_
          have BK129 := n1_
          have HB := n2_
          clear n0_ n1_ n2_
          (try clear hb)
          (try clear hb2)
          (try clear hk)
          (try clear hi)
          refine hK.out _ _ ⟨(bC BK129.out 0).trans rfl, (bC BK129.out 1).trans rfl, (bC BK126.out 0).trans rfl, (bC BK126.out 1).trans rfl⟩ (fun hHeld => ?_)
          clear hK K
          refine norm_ (a' := ?_) ?_ ?_
          rotate_left
          ·show Act.put _ (some 31) _ = _
           simp only [Act.put, lS, lZ, lU, i64_w, i32_w]
           rfl
          refine pure_ (i := 4) (N := some 34) (v := ?_) (a' := ?_) #[true, true, true, true, true, false] rfl rfl (by kernel_rfl) (fun _ _ _ h => h) (Or.inl ⟨by rfl, ?_⟩) ?_ ?_
          rotate_left
          ·intro w'
           go_simp
           with_reducible rfl
          rotate_left
          ·simp only [Act.put, lS, lZ, lU, i64_w, i32_w]
           rfl
          refine pure_ (i := 5) (N := some 29) (v := ?_) (a' := ?_) #[true, true, true, true, true, true] rfl rfl (by kernel_rfl) (fun _ _ _ h => h) (Or.inl ⟨by rfl, ?_⟩) ?_ ?_
          rotate_left
          ·intro w'
           go_simp
           with_reducible rfl
          rotate_left
          ·simp only [Act.put, lS, lZ, lU, i64_w, i32_w]
           rfl
          refine done_ (by kernel_rfl) ?_
          try go_wp2_with (first|(with_reducible refine wp_scope_body ?_)|(go_step3))
          go_roundg k1
          case measure => have:=HK1.out;omega
          case rel => exact ⟨(x6_1),(wrap64 (x17_1 + 1)),(by first|rfl|(simp;done)|(simp [*];done)),(by first|rfl|(simp;done)|(simp [*];done)),H',⟨by have:=HK1.out;omega⟩,⟨by (with_reducible repeat (first|refine bN ?_ _|refine bD ?_|refine bA ?_ _));exact BK126.out⟩,⟨by repeat (first|(with_reducible first|exact HB.out|apply wA|apply wN_|apply wD|refine wS ?_ GE126.out|refine wS ?_ GE129.out)|exact HB.out)⟩⟩
       ·rw [if_neg c11] at H
        exact absurd H (by simp)
      ·rw [if_neg c10] at H
       exact absurd H (by simp)
     ·rw [if_neg c9] at H
      have c9b0 : decide (x17_1 < (l0.length : Int)) = false := decide_eq_false c9
      clear c9
      (first | rw [c9b0] | (simp only [i64_w, i32_w]; rw [c9b0]) | skip)
      have H' := aM H
      clear H
      go_wp2_with (first|(with_reducible refine wp_scope_body ?_)|(go_step3))
      go_meet
      case rel => exact ⟨_,(x6_1),(by first|rfl|(simp;done)|(simp [*];done)),H',⟨by have:=HK1.out;first|omega|exact Nat.le_refl _⟩,⟨by (with_reducible repeat (first|refine bN ?_ _|refine bD ?_|refine bA ?_ _));exact BK126.out⟩,⟨by repeat (first|(with_reducible first|exact HB.out|apply wA|apply wN_|apply wD|refine wS ?_ GE126.out)|exact HB.out)⟩⟩
  case rest =>
   clear HC5
   try clear c1
   try clear p1
   try clear q1
   try clear hx1
   try clear c2
   try clear p2
   try clear c3
   try clear p3
   try clear c4
   try clear p6
   try clear c9
   try clear c9b0
   try clear c10
   try clear c10b0
   try clear c11
   try clear c11b0
   try clear p12
   try clear q12
   try clear hx12
   try clear c13
   try clear c13b0
   try clear c15
   try clear c18
   try clear c21
   try clear c21b0
   try clear c23
   try clear c31
   try clear hcz16_0
   try clear hcz16_1
   try clear hcz24_0
   try clear hcz24_1
   try clear hcz32_0
   try clear hcz32_1
   try clear hcz7_0
   try clear hcz7_1
   try clear hfz16_0
   try clear hfz16_1
   try clear hfz24_0
   try clear hfz24_1
   try clear hfz32_0
   try clear hfz32_1
   try clear hfz7_0
   try clear hfz7_1
   try clear hx128_0
   try clear hx128_1
   try clear p128
   try clear p2
   try clear p3
   try clear q128
   obtain ⟨kq, x6_4, rfl, HA, HJ4, BK126, HB⟩ := hcut
   cases kq with
   | zero => exact absurd HA.out (by simp [runs_Put.j1])
   | succ kj4 =>
    have H := HA.out
    clear HA
    simp only [runs_Put.j1] at H
    replace H := Option.bind_eq_some_iff.mp H
    obtain ⟨t132, A380, H⟩ := H
    replace H : ((api_Run_46.f t132 x6_4 (([(⟨a1_0, a1_1⟩ : S32)] : List (S32)))).bind fun t138 => (if (wrap64 (x6_4 + 1)) < (t138.length : Int) then (if 0 ≤ x6_4 then (if x6_4 < (t138.length : Int) then ((runs_end.f ((rd_T32 t138 x6_4).f0) ((rd_T32 t138 x6_4).f1)).bind fun t142 => (if 0 ≤ (wrap64 (x6_4 + 1)) then (runs_Put.j2 kj4 x6_4 t138 (t142 == ((rd_T32 t138 (wrap64 (x6_4 + 1))).f0))) else (none))) else (none)) else (none)) else (runs_Put.j2 kj4 x6_4 t138 false))) = some (r1, r2) := H
    have A38 := aM A380
    clear A380
    obtain ⟨y135, hy135⟩ : ∃ y_ : List (S32), y_ = (([(⟨a1_0, a1_1⟩ : S32)] : List (S32))) := ⟨_, rfl⟩
    replace H : ((api_Run_46.f t132 x6_4 y135).bind fun t138 => (if (wrap64 (x6_4 + 1)) < (t138.length : Int) then (if 0 ≤ x6_4 then (if x6_4 < (t138.length : Int) then ((runs_end.f ((rd_T32 t138 x6_4).f0) ((rd_T32 t138 x6_4).f1)).bind fun t142 => (if 0 ≤ (wrap64 (x6_4 + 1)) then (runs_Put.j2 kj4 x6_4 t138 (t142 == ((rd_T32 t138 (wrap64 (x6_4 + 1))).f0))) else (none))) else (none)) else (none)) else (runs_Put.j2 kj4 x6_4 t138 false))) = some (r1, r2) := by first | (rw [hy135]; with_reducible exact H) | (have H2_ := (Option.bind_some _ _).symm.trans H; rw [hy135]; with_reducible exact H2_) | (have H2_ := (Option.bind_some _ _).symm.trans H; with_reducible exact H2_) | with_reducible exact H | (rw [hy135]; exact H) | exact H
    have Ny135 := aM hy135
    clear hy135
    replace H := Option.bind_eq_some_iff.mp H
    obtain ⟨t138, A390, H⟩ := H
    replace H : (if (wrap64 (x6_4 + 1)) < (t138.length : Int) then (if 0 ≤ x6_4 then (if x6_4 < (t138.length : Int) then ((runs_end.f ((rd_T32 t138 x6_4).f0) ((rd_T32 t138 x6_4).f1)).bind fun t142 => (if 0 ≤ (wrap64 (x6_4 + 1)) then (runs_Put.j2 kj4 x6_4 t138 (t142 == ((rd_T32 t138 (wrap64 (x6_4 + 1))).f0))) else (none))) else (none)) else (none)) else (runs_Put.j2 kj4 x6_4 t138 false)) = some (r1, r2) := H
    have A39 := aM A390
    clear A390
    have HC40 := aM H
    clear H
    try go_wp2
    have n0_ := aM (bD BK126.out)
    have n1_ := aM (wD HB.out)
    clear BK126
    clear HB
    have BK126 := n0_
    have HB := n1_
    clear n0_ n1_
    refine start_ (n := 7) (S := fun w' => w'.cell? ⟨gb126, 0, none⟩ = some (.int .i64 a1_0) ∧ w'.cell? ⟨gb126, 1, none⟩ = some (.int .i64 a1_1)) (ds := []) #[false, false, false, false, false, false, false] (by kernel_rfl) rfl rfl ⟨(bC BK126.out 0).trans rfl, (bC BK126.out 1).trans rfl⟩ (fun hHeld => ?_)
    generalize wc.drew = w41 at BK126 HB hHeld ⊢
    refine pure_ (i := 0) (N := some 36) (v := ?_) (a' := ?_) #[true, false, false, false, false, false, false] rfl rfl (by kernel_rfl) (fun _ _ _ h => h) (Or.inl ⟨by rfl, ?_⟩) ?_ ?_
    rotate_left
    ·intro w'
     go_simp
     with_reducible rfl
    rotate_left
    ·simp only [Act.put, lS, lZ, lU, i64_w, i32_w]
     rfl
    refine pure_ (i := 2) (N := some 38) (v := ?_) (a' := ?_) #[true, false, true, false, false, false, false] rfl rfl (by kernel_rfl) (fun _ _ _ h => h) (Or.inl ⟨by rfl, ?_⟩) ?_ ?_
    rotate_left
    ·intro w'
     go_simp
     with_reducible rfl
    rotate_left
    ·simp only [Act.put, lS, lZ, lU, i64_w, i32_w]
     rfl
    refine take_ (i := 3) (N := some 39) (v := ?_) (a' := ?_) #[true, false, true, true, false, false, false] rfl rfl (by kernel_rfl) (fun _ _ _ h => h) (Or.inl ⟨by rfl, ?_⟩) hHeld ?_ ?_
    rotate_left
    ·rintro w' ⟨s0, s1⟩
     go_simp
     with_reducible rfl
    rotate_left
    ·simp only [Act.put, lS, lZ, lU, i64_w, i32_w]
     rfl
    refine join_ (σ := Value × Value) 2 #[true, true, true, true, true, false, false] (fun s_ => [(37, s_.1), (40, s_.2)]) (fun s_ w' => (w'.cell? ⟨gb126, 0, none⟩ = some (.int .i64 a1_0) ∧ w'.cell? ⟨gb126, 1, none⟩ = some (.int .i64 a1_1)) ∧ (Kd.R k32 32 w' w.heap.size (fun k_ => some k_ ≠ (s_.2 : Value).ownBlock ∧ k_ ≠ gb126) s_.1 t132) ∧ (Kd.R k32 32 w' w.heap.size (fun k_ => some k_ ≠ (s_.1 : Value).ownBlock ∧ k_ ≠ gb126) s_.2 y135) ∧ (w'.heap[gb126]? = some (.cells #[.int .i64 a1_0, .int .i64 a1_1] 32 (0, 0))) ∧ (Below w.heap.size w w')) ?_ ?_
    rotate_left
    ·intro hCont
     refine two_ (i := 1) (j := 4) (Ni := some 37) (Nj := some 40) #[true, true, true, true, false, false, false] #[true, false, true, true, true, false, false] rfl rfl rfl rfl (by kernel_rfl) (by decide) (by decide) (fun K hK => ?_) (fun K hK => ?_)
     ·skip
      refine goes_ Try.func42 (by kernel_rfl) rfl #[.slice A0 l0.length c0] (by rfl) rfl rfl (by (try simp only [lM, lC, lN]); first | done | rfl | (simp only [lD, lT]; rfl)) ?_
      with_reducible refine (api_Run_42.calls _ _ l0 t132 _ ?side1 ?side2 A38.out).mono ?_
      (case side1 => repeat (first|exact (cB HR0.out HB.out)|(with_reducible refine cA ?_ _)|(with_reducible refine cN ?_ _)|(with_reducible refine cD ?_)))
      (case side2 => exact HC0.out)
      rintro e w42 ⟨v133, rfl, ho0, hb⟩
      refine ⟨_, rfl, ?_⟩
      have n0_ := aM (Kd.R_lower (Kd.R_newB ho0 (g := gb126) (o := .cells #[.int .i64 a1_0, .int .i64 a1_1] 32 (0, 0)) (by (with_reducible repeat (first | refine bN ?_ _ | refine bD ?_ | refine bA ?_ _)); exact BK126.out)) (wZ (by repeat (first | (with_reducible first | exact HB.out | apply wA | apply wN_ | apply wD | refine wS ?_ GE126.out) | exact HB.out))))
      have n1_ := aM (bB (g := gb126) (o := .cells #[.int .i64 a1_0, .int .i64 a1_1] 32 (0, 0)) (by (with_reducible repeat (first | refine bN ?_ _ | refine bD ?_ | refine bA ?_ _)); exact BK126.out) hb)
      have n2_ := aM (wT (by repeat (first | (with_reducible first | exact HB.out | apply wA | apply wN_ | apply wD | refine wS ?_ GE126.out) | exact HB.out)) hb)
      clear BK126
      clear HB
      have HO134 := n0_
      have BK126 := n1_
      have HB := n2_
      clear n0_ n1_ n2_
      (try clear hb)
      (try clear hb2)
      (try clear hk)
      (try clear hi)
      (try clear ho0)
      refine hK.out _ _ ⟨(bC BK126.out 0).trans rfl, (bC BK126.out 1).trans rfl⟩ (fun hHeld => ?_)
      clear hK K
      refine norm_ (a' := ?_) ?_ ?_
      rotate_left
      ·show Act.put _ (some 37) _ = _
       simp only [Act.put, lS, lZ, lU, i64_w, i32_w]
       rfl
      refine one_ (i := 4) (N := some 40) #[true, true, true, true, true, false, false] rfl rfl (by kernel_rfl) (by decide) (fun K hK => ?_)
      refine Kd.R_lit_step k32 _ 32 ?hg (N:=40) ?hd (xs:=([(⟨a1_0,a1_1⟩ : S32)] : List (S32))) (inner:=[.int .i64 a1_0,.int .i64 a1_1]) (ok:=fun _ => True) (okp:=fun _ => True) ?hr ?hp (fun _ hk => hk) trivial (Below.refl _ _) (Nat.le_refl _) (by simp) ?_;(case hd => rfl);(case hg => rfl);(case hr => first|(go_simp;done)|(go_simp;rfl));(case hp => exact (Reps.c2 (show Kd.M k32 _ _ _ (⟨a1_0,a1_1⟩ : S32) [.int .i64 a1_0,.int .i64 a1_1] from (k32_mkM _ _ _ (⟨a1_0,a1_1⟩ : S32) )) (Reps.none _ _)))
      intro v136 w43 ho44 hb hg_ hnew_
      clear hg_ hnew_
      (first | rw [← Ny135.out] at ho44 | (simp only [Int.reduceToNat] at ho44; rw [← Ny135.out] at ho44))
      have n0_ := aM (Kd.R_elder' (by (with_reducible repeat (first | apply rA | apply rN | apply rD)); exact HO134.out) (Kd.R_base ho44) hb)
      have n1_ := aM (Kd.R_lower (Kd.R_newB (Kd.R_new' ho44 (Kd.R_lt (by (with_reducible repeat (first | apply rA | apply rN | apply rD)); exact HO134.out))) (g := gb126) (o := .cells #[.int .i64 a1_0, .int .i64 a1_1] 32 (0, 0)) (by (with_reducible repeat (first | refine bN ?_ _ | refine bD ?_ | refine bA ?_ _)); exact BK126.out)) (wZ (by repeat (first | (with_reducible first | exact HB.out | apply wA | apply wN_ | apply wD | refine wS ?_ GE126.out) | exact HB.out))))
      have n2_ := aM (bB (g := gb126) (o := .cells #[.int .i64 a1_0, .int .i64 a1_1] 32 (0, 0)) (by (with_reducible repeat (first | refine bN ?_ _ | refine bD ?_ | refine bA ?_ _)); exact BK126.out) hb)
      have n3_ := aM (wT (by repeat (first | (with_reducible first | exact HB.out | apply wA | apply wN_ | apply wD | refine wS ?_ GE126.out) | exact HB.out)) hb)
      clear HO134
      clear BK126
      clear HB
      have HO134 := n0_
      have HO137 := n1_
      have BK126 := n2_
      have HB := n3_
      clear n0_ n1_ n2_ n3_
      clear hb ho44
      refine hK.out _ _ ⟨(bC BK126.out 0).trans rfl, (bC BK126.out 1).trans rfl⟩ (fun hHeld => ?_)
      clear hK K
      refine norm_ (a' := ?_) ?_ ?_
      rotate_left
      ·show Act.put _ (some 40) _ = _
       simp only [Act.put, lS, lZ, lU, i64_w, i32_w]
       rfl
      exact norm_ (by simp only [putAll, Act.put, lS, lZ, lU]) (hCont (v133, v136) _ ⟨hHeld, (by (with_reducible repeat (first | apply rA | apply rN | apply rD)); exact rM HO134.out (fun _ hk => ⟨hk.2, hk.1.2⟩)), (by (with_reducible repeat (first | apply rA | apply rN | apply rD)); exact rM HO137.out (fun _ hk => ⟨hk.1.2, hk.2⟩)), (by (with_reducible repeat (first | refine bN ?_ _ | refine bD ?_ | refine bA ?_ _)); exact BK126.out), (by repeat (first | (with_reducible first | exact HB.out | apply wA | apply wN_ | apply wD | refine wS ?_ GE126.out) | exact HB.out))⟩)
     ·skip
      refine Kd.R_lit_step k32 _ 32 ?hg (N:=40) ?hd (xs:=([(⟨a1_0,a1_1⟩ : S32)] : List (S32))) (inner:=[.int .i64 a1_0,.int .i64 a1_1]) (ok:=fun _ => True) (okp:=fun _ => True) ?hr ?hp (fun _ hk => hk) trivial (Below.refl _ _) (Nat.le_refl _) (by simp) ?_;(case hd => rfl);(case hg => rfl);(case hr => first|(go_simp;done)|(go_simp;rfl));(case hp => exact (Reps.c2 (show Kd.M k32 _ _ _ (⟨a1_0,a1_1⟩ : S32) [.int .i64 a1_0,.int .i64 a1_1] from (k32_mkM _ _ _ (⟨a1_0,a1_1⟩ : S32) )) (Reps.none _ _)))
      intro v136 w42 ho43 hb hg_ hnew_
      clear hg_ hnew_
      (first | rw [← Ny135.out] at ho43 | (simp only [Int.reduceToNat] at ho43; rw [← Ny135.out] at ho43))
      have n0_ := aM (Kd.R_lower (Kd.R_newB ho43 (g := gb126) (o := .cells #[.int .i64 a1_0, .int .i64 a1_1] 32 (0, 0)) (by (with_reducible repeat (first | refine bN ?_ _ | refine bD ?_ | refine bA ?_ _)); exact BK126.out)) (wZ (by repeat (first | (with_reducible first | exact HB.out | apply wA | apply wN_ | apply wD | refine wS ?_ GE126.out) | exact HB.out))))
      have n1_ := aM (bB (g := gb126) (o := .cells #[.int .i64 a1_0, .int .i64 a1_1] 32 (0, 0)) (by (with_reducible repeat (first | refine bN ?_ _ | refine bD ?_ | refine bA ?_ _)); exact BK126.out) hb)
      have n2_ := aM (wT (by repeat (first | (with_reducible first | exact HB.out | apply wA | apply wN_ | apply wD | refine wS ?_ GE126.out) | exact HB.out)) hb)
      clear BK126
      clear HB
      have HO137 := n0_
      have BK126 := n1_
      have HB := n2_
      clear n0_ n1_ n2_
      clear hb ho43
      refine hK.out _ _ ⟨(bC BK126.out 0).trans rfl, (bC BK126.out 1).trans rfl⟩ (fun hHeld => ?_)
      clear hK K
      refine norm_ (a' := ?_) ?_ ?_
      rotate_left
      ·show Act.put _ (some 40) _ = _
       simp only [Act.put, lS, lZ, lU, i64_w, i32_w]
       rfl
      refine one_ (i := 1) (N := some 37) #[true, true, true, true, true, false, false] rfl rfl (by kernel_rfl) (by decide) (fun K hK => ?_)
      refine goes_ Try.func42 (by kernel_rfl) rfl #[.slice A0 l0.length c0] (by rfl) rfl rfl (by (try simp only [lM, lC, lN]); first | done | rfl | (simp only [lD, lT]; rfl)) ?_
      with_reducible refine (api_Run_42.calls _ _ l0 t132 _ ?side1 ?side2 A38.out).mono ?_
      (case side1 => repeat (first|exact (cB HR0.out HB.out)|(with_reducible refine cA ?_ _)|(with_reducible refine cN ?_ _)|(with_reducible refine cD ?_)))
      (case side2 => exact HC0.out)
      rintro e w44 ⟨v133, rfl, ho0, hb⟩
      refine ⟨_, rfl, ?_⟩
      have n0_ := aM (Kd.R_elder' (by (with_reducible repeat (first | apply rA | apply rN | apply rD)); exact HO137.out) (Kd.R_base ho0) hb)
      have n1_ := aM (Kd.R_lower (Kd.R_newB (Kd.R_new' ho0 (Kd.R_lt (by (with_reducible repeat (first | apply rA | apply rN | apply rD)); exact HO137.out))) (g := gb126) (o := .cells #[.int .i64 a1_0, .int .i64 a1_1] 32 (0, 0)) (by (with_reducible repeat (first | refine bN ?_ _ | refine bD ?_ | refine bA ?_ _)); exact BK126.out)) (wZ (by repeat (first | (with_reducible first | exact HB.out | apply wA | apply wN_ | apply wD | refine wS ?_ GE126.out) | exact HB.out))))
      have n2_ := aM (bB (g := gb126) (o := .cells #[.int .i64 a1_0, .int .i64 a1_1] 32 (0, 0)) (by (with_reducible repeat (first | refine bN ?_ _ | refine bD ?_ | refine bA ?_ _)); exact BK126.out) hb)
      have n3_ := aM (wT (by repeat (first | (with_reducible first | exact HB.out | apply wA | apply wN_ | apply wD | refine wS ?_ GE126.out) | exact HB.out)) hb)
      clear HO137
      clear BK126
      clear HB
      have HO137 := n0_
      have HO134 := n1_
      have BK126 := n2_
      have HB := n3_
      clear n0_ n1_ n2_ n3_
      (try clear hb)
      (try clear hb2)
      (try clear hk)
      (try clear hi)
      (try clear ho0)
      refine hK.out _ _ ⟨(bC BK126.out 0).trans rfl, (bC BK126.out 1).trans rfl⟩ (fun hHeld => ?_)
      clear hK K
      refine norm_ (a' := ?_) ?_ ?_
      rotate_left
      ·show Act.put _ (some 37) _ = _
       simp only [Act.put, lS, lZ, lU, i64_w, i32_w]
       rfl
      exact norm_ (by simp only [putAll, Act.put, lS, lZ, lU]) (hCont (v133, v136) _ ⟨hHeld, (by (with_reducible repeat (first | apply rA | apply rN | apply rD)); exact rM HO134.out (fun _ hk => ⟨hk.1.2, hk.2⟩)), (by (with_reducible repeat (first | apply rA | apply rN | apply rD)); exact rM HO137.out (fun _ hk => ⟨hk.2, hk.1.2⟩)), (by (with_reducible repeat (first | refine bN ?_ _ | refine bD ?_ | refine bA ?_ _)); exact BK126.out), (by repeat (first | (with_reducible first | exact HB.out | apply wA | apply wN_ | apply wD | refine wS ?_ GE126.out) | exact HB.out))⟩)
    rintro ⟨v133, v136⟩ w45 ⟨hS_, h0_, h1_, h2_, h3_⟩
    have n0_ : Aside0 (Kd.R k32 32 w45 w.heap.size (fun k_ => some k_ ≠ (v136 : Value).ownBlock ∧ k_ ≠ gb126) v133 t132) := ⟨h0_⟩
    have n1_ : Aside0 (Kd.R k32 32 w45 w.heap.size (fun k_ => some k_ ≠ (v133 : Value).ownBlock ∧ k_ ≠ gb126) v136 y135) := ⟨h1_⟩
    have n2_ : Aside0 (w45.heap[gb126]? = some (.cells #[.int .i64 a1_0, .int .i64 a1_1] 32 (0, 0))) := ⟨h2_⟩
    have n3_ : Aside0 (Below w.heap.size w w45) := ⟨h3_⟩
    clear BK126
    clear HB
    clear h0_ h1_ h2_ h3_
    have HO134 := n0_
    have HO137 := n1_
    have BK126 := n2_
    have HB := n3_
    clear n0_ n1_ n2_ n3_
    have hHeld : w45.cell? ⟨gb126, 0, none⟩ = some (.int .i64 a1_0) ∧ w45.cell? ⟨gb126, 1, none⟩ = some (.int .i64 a1_1) := hS_
    obtain ⟨Ao46, co46, eo46⟩ := Kd.R_slice HO134.out
    (first | subst eo46 | (injection eo46 with f1_ f2_ f3_; have f4_ := f1_.symm; have f5_ := f3_.symm; clear f1_ f2_ f3_; subst f4_; subst f5_))
    obtain ⟨Ao47, co47, eo47⟩ := Kd.R_slice HO137.out
    (first | subst eo47 | (injection eo47 with f1_ f2_ f3_; have f4_ := f1_.symm; have f5_ := f3_.symm; clear f1_ f2_ f3_; subst f4_; subst f5_))
    refine norm_ (a' := ?_) ?_ ?_
    rotate_left
    ·simp only [putAll, Act.put, lS, lZ, lU]
     rfl
    refine one_ (i := 5) (N := some 41) #[true, true, true, true, true, true, false] rfl rfl (by kernel_rfl) (by decide) (fun K hK => ?_)
    refine goes_ Try.func46 (by kernel_rfl) rfl #[.slice Ao46 t132.length co46, .int .i64 x6_4, .slice Ao47 y135.length co47] (by rfl) rfl rfl (by (try simp only [lM, lC, lN]); first | done | rfl | (simp only [lD, lT]; rfl)) ?_
    with_reducible refine (api_Run_46.calls (fun k_ => some k_ = (.slice Ao46 t132.length co46 : Value).ownBlock) (.slice Ao46 t132.length co46) t132 x6_4 (fun k_ => some k_ = (.slice Ao47 y135.length co47 : Value).ownBlock) (.slice Ao47 y135.length co47) y135 t138 w _ ?side1 ?side2 ?side3 ?side4 ?side5 A39.out).mono ?_
    (case side1 => repeat (first|(with_reducible first|exact HB.out|apply wA|apply wN_|apply wD|refine wS ?_ GE126.out)|exact HB.out))
    (case side2 => exact Kd.R_tight rfl HO134.out)
    (case side3 => exact fun k_ e_ => (HO134.out.1 k_ e_.symm).1)
    (case side4 => exact Kd.R_tight rfl HO137.out)
    (case side5 => exact fun k_ e_ => (HO137.out.1 k_ e_.symm).1)
    rintro e w48 ⟨v139, rfl, ho0, hb, hkp⟩
    refine ⟨_, rfl, ?_⟩
    have n0_ := aM (blk_kept (by (with_reducible repeat (first | refine bN ?_ _ | refine bD ?_ | refine bA ?_ _)); exact BK126.out) hkp (fun hs_ => Or.elim hs_ (fun e_ => (fun e_ => (Kd.R_away HO134.out (fun _ hk => hk.2)) e_) e_) (fun e_ => (fun e_ => (Kd.R_away HO137.out (fun _ hk => hk.2)) e_) e_)))
    have n1_ := aM (rM (ok' := fun k_ => k_ ≠ gb126) ho0 (fun k_ hk_ => Or.elim hk_ (fun hs_ => Or.elim hs_ (fun hs_ => fun e_ => (Kd.R_away HO134.out (fun _ hk => hk.2)) (by rw [← e_]; exact hs_)) (fun hs_ => fun e_ => (Kd.R_away HO137.out (fun _ hk => hk.2)) (by rw [← e_]; exact hs_))) (fun hn_ => (Kd.freshB (g := gb126) (o := .cells #[.int .i64 a1_0, .int .i64 a1_1] 32 (0, 0)) (by (with_reducible repeat (first | refine bN ?_ _ | refine bD ?_ | refine bA ?_ _)); exact BK126.out) k_ hn_))))
    have n2_ := aM (hb)
    clear BK126
    clear HB
    clear HO134
    clear HO137
    have BK126 := n0_
    have HO140 := n1_
    have HB := n2_
    clear n0_ n1_ n2_
    (try clear hb)
    (try clear hkp)
    (try clear ho0)
    refine hK.out _ _ ⟨(bC BK126.out 0).trans rfl, (bC BK126.out 1).trans rfl⟩ (fun hHeld => ?_)
    clear hK K
    refine norm_ (a' := ?_) ?_ ?_
    rotate_left
    ·show Act.put _ (some 41) _ = _
     simp only [Act.put, lS, lZ, lU, i64_w, i32_w]
     rfl
    refine pure_ (i := 6) (N := some 9) (v := ?_) (a' := ?_) #[true, true, true, true, true, true, true] rfl rfl (by kernel_rfl) (fun _ _ _ h => h) (Or.inl ⟨by rfl, ?_⟩) ?_ ?_
    rotate_left
    ·intro w'
     go_simp
     with_reducible rfl
    rotate_left
    ·simp only [Act.put, lS, lZ, lU, i64_w, i32_w]
     rfl
    refine done_ (by kernel_rfl) ?_
    go_upto_region 13 with (first | (with_reducible refine wp_scope_body ?_) | (go_step3))
    go_cut [60] (fun v60 wc => ∃ (kq : Nat) (x60_39 : Bool), v60 = .bool x60_39 ∧ Aside0 (runs_Put.j2 kq x6_4 t138 x60_39 = some (r1, r2)) ∧ Aside0 (kq ≤ kj4) ∧ Aside0 (Kd.R k32 32 wc w.heap.size (fun k_ => k_ ≠ gb126) v139 t138) ∧ Aside0 (wc.heap[gb126]? = some (.cells #[.int .i64 a1_0, .int .i64 a1_1] 32 (0, 0))) ∧ Aside0 (Below w.heap.size w wc))
    case first =>
     have H := HC40.out
     clear HC40
     by_cases c49 : (wrap64 (x6_4 + 1)) < (t138.length : Int)
     ·rw [if_pos c49] at H
      have c49b0 : decide ((wrap64 (x6_4 + 1)) < (t138.length : Int)) = true := decide_eq_true c49
      clear c49
      (first | rw [c49b0] | (simp only [i64_w, i32_w]; rw [c49b0]) | skip)
      by_cases c50 : 0 ≤ x6_4
      ·rw [if_pos c50] at H
       have c50b0 : decide (0 ≤ x6_4) = true := decide_eq_true c50
       clear c50
       by_cases c51 : x6_4 < (t138.length : Int)
       ·rw [if_pos c51] at H
        have c51b0 : decide (x6_4 < (t138.length : Int)) = true := decide_eq_true c51
        clear c51
        replace H := Option.bind_eq_some_iff.mp H
        obtain ⟨t142, A520, H⟩ := H
        replace H : (if 0 ≤ (wrap64 (x6_4 + 1)) then (runs_Put.j2 kj4 x6_4 t138 (t142 == ((rd_T32 t138 (wrap64 (x6_4 + 1))).f0))) else (none)) = some (r1, r2) := H
        have A52 := aM A520
        clear A520
        obtain ⟨ji53, hji53⟩ : ∃ j_ : Int, (wrap64 (x6_4 + 1)) = j_ := ⟨_, rfl⟩
        replace H : (if 0 ≤ (ji53) then (runs_Put.j2 kj4 x6_4 t138 (t142 == ((rd_T32 t138 (ji53)).f0))) else (none)) = some (r1, r2) := by first | (rw [hji53] at H; exact H) | (simp only [hji53] at H ⊢; exact H)
        (try rw [hji53] at c49b0)
        (try rw [hji53] at A52)
        have hji53w : (IntKind.i64.wrap (x6_4 + 1)) = ji53 := (i64_w _).trans hji53
        by_cases c54 : 0 ≤ (ji53)
        ·rw [if_pos c54] at H
         have c54b0 : decide (0 ≤ (ji53)) = true := decide_eq_true c54
         clear c54
         have H' := aM H
         clear H
         try go_wp2_with (first|(with_reducible refine wp_scope_body ?_)|(go_step3))
         have n0_ := aM (rD HO140.out)
         have n1_ := aM (bD BK126.out)
         have n2_ := aM (wD HB.out)
         clear HO140
         clear BK126
         clear HB
         have HO140 := n0_
         have BK126 := n1_
         have HB := n2_
         clear n0_ n1_ n2_
         obtain ⟨Ao56, co56, eo56⟩ := Kd.R_slice HO140.out
         (first | subst eo56 | (injection eo56 with f1_ f2_ f3_; have f4_ := f1_.symm; have f5_ := f3_.symm; clear f1_ f2_ f3_; subst f4_; subst f5_))
         have p141 : 0 ≤ (x6_4 : Int) := oD (by first | (with_reducible assumption) | assumption)
         have q141 : x6_4 < (t138.length : Int) := oD (by first | (with_reducible assumption) | assumption)
         obtain ⟨ad141, e141, hx141_0, hx141_1⟩ := at_T32 (Kd.R_reads' HO140.out).2.2 x6_4 p141 q141
         cases e141
         replace p141 := eq_true p141
         replace q141 := eq_true q141
         have p143 : 0 ≤ ((ji53) : Int) := oD (by first | (with_reducible assumption) | assumption)
         have q143 : (ji53) < (t138.length : Int) := oD (by first | (with_reducible assumption) | assumption)
         obtain ⟨ad143, e143, hx143_0, hx143_1⟩ := at_T32 (Kd.R_reads' HO140.out).2.2 (ji53) p143 q143
         obtain rfl : ad141 = ad143 := (by injection e143)
         replace p143 := eq_true p143
         replace q143 := eq_true q143
         refine start_ (n := 19) (S := fun w' => w'.cell? (ad141.add ((x6_4).toNat * 2)) = some (.int .i64 ((rd_T32 t138 x6_4).f0)) ∧ w'.cell? ⟨(ad141.add ((x6_4).toNat * 2)).block, (ad141.add ((x6_4).toNat * 2)).off + 1, none⟩ = some (.int .i64 ((rd_T32 t138 x6_4).f1)) ∧ w'.cell? (ad141.add (((ji53)).toNat * 2)) = some (.int .i64 ((rd_T32 t138 (ji53)).f0)) ∧ w'.cell? ⟨(ad141.add (((ji53)).toNat * 2)).block, (ad141.add (((ji53)).toNat * 2)).off + 1, none⟩ = some (.int .i64 ((rd_T32 t138 (ji53)).f1))) (ds := []) (msk 0 19) (by kernel_rfl) rfl rfl ⟨hx141_0, hx141_1, hx143_0, hx143_1⟩ (fun hHeld => ?_); refine with_tabW runs_Put.tab13 runs_Put.bits13 (fun HT_ HW_ => ?_)
         generalize w48.drew = w55 at HO140 BK126 HB hx141_0 hx141_1 hx143_0 hx143_1 hHeld ⊢
         refine pure_ (i := 0) (N := some 42) (v := ?_) (a' := ?_) (msk 1 18) rfl rfl (any_of HT_.out (by kernel_rfl)) (fun _ _ _ h => h) (Or.inl ⟨by rfl, ?_⟩) ?_ ?_
         rotate_left
         ·intro w'
          go_simp
          with_reducible rfl
         rotate_left
         ·simp only [Act.put, lS, lZ, lU, i64_w, i32_w]
          rfl
         refine pure_ (i := 1) (N := some 43) (v := ?_) (a' := ?_) (msk 2 17) rfl rfl (any_of HT_.out (by kernel_rfl)) (fun _ _ _ h => h) (Or.inl ⟨by rfl, ?_⟩) ?_ ?_
         rotate_left
         ·intro w'
          go_simp
          with_reducible rfl
         rotate_left
         ·simp only [Act.put, lS, lZ, lU, i64_w, i32_w]
          rfl
         refine pure_ (i := 2) (N := some 44) (v := ?_) (a' := ?_) (msk 3 16) rfl rfl (any_of HT_.out (by kernel_rfl)) (fun _ _ _ h => h) (Or.inl ⟨by rfl, ?_⟩) ?_ ?_
         rotate_left
         ·intro w'
          go_simp
          with_reducible rfl
         rotate_left
         ·simp only [Act.put, lS, lZ, lU, i64_w, i32_w]
          rfl
         refine pure_ (i := 3) (N := some 45) (v := ?_) (a' := ?_) (msk 4 15) rfl rfl (any_of HT_.out (by kernel_rfl)) (fun _ _ _ h => h) (Or.inl ⟨by rfl, ?_⟩) ?_ ?_
         rotate_left
         ·intro w'
          go_simp
          with_reducible rfl
         rotate_left
         ·simp only [Act.put, lS, lZ, lU, i64_w, i32_w]
          rfl
         refine pure_ (i := 4) (N := some 46) (v := ?_) (a' := ?_) (msk 5 14) rfl rfl (any_of HT_.out (by kernel_rfl)) (fun _ _ _ h => h) (Or.inl ⟨by rfl, ?_⟩) ?_ ?_
         rotate_left
         ·intro w'
          go_simp
          with_reducible rfl
         rotate_left
         ·simp only [Act.put, lS, lZ, lU, i64_w, i32_w]
          rfl
         refine pure_ (i := 5) (N := some 47) (v := ?_) (a' := ?_) (msk 6 13) rfl rfl (any_of HT_.out (by kernel_rfl)) (fun _ _ _ h => h) (Or.inl ⟨by rfl, ?_⟩) ?_ ?_
         rotate_left
         ·intro w'
          go_simp
          with_reducible rfl
         rotate_left
         ·simp only [Act.put, lS, lZ, lU, i64_w, i32_w]
          rfl
         refine pure_ (i := 6) (N := some 48) (v := ?_) (a' := ?_) (msk 7 12) rfl rfl (any_of HT_.out (by kernel_rfl)) (fun _ _ _ h => h) (Or.inl ⟨by rfl, ?_⟩) ?_ ?_
         rotate_left
         ·intro w'
          go_simp
          with_reducible rfl
         rotate_left
         ·simp only [Act.put, lS, lZ, lU, i64_w, i32_w]
          rfl
         refine pure_ (i := 7) (N := some 49) (v := ?_) (a' := ?_) (msk 8 11) rfl rfl (any_of HT_.out (by kernel_rfl)) (fun _ _ _ h => h) (Or.inl ⟨by rfl, ?_⟩) ?_ ?_
         rotate_left
         ·intro w'
          go_simp
          with_reducible rfl
         rotate_left
         ·simp only [Act.put, lS, lZ, lU, i64_w, i32_w]
          rfl
         refine pure_ (i := 8) (N := some 50) (v := ?_) (a' := ?_) (msk 9 10) rfl rfl (any_of HT_.out (by kernel_rfl)) (fun _ _ _ h => h) (Or.inl ⟨by rfl, ?_⟩) ?_ ?_
         rotate_left
         ·intro w'
          go_simp
          with_reducible rfl
         rotate_left
         ·simp only [Act.put, lS, lZ, lU, i64_w, i32_w]
          rfl
         refine pure_ (i := 11) (N := some 53) (v := ?_) (a' := ?_) #[tt,tt,tt,tt,tt,tt,tt,tt,tt,ff,ff,tt,ff,ff,ff,ff,ff,ff,ff] rfl rfl (any_of HT_.out (by kernel_rfl)) (fun _ _ _ h => h) (Or.inl ⟨by rfl, ?_⟩) ?_ ?_
         rotate_left
         ·intro w'
          go_simp
          with_reducible rfl
         rotate_left
         ·simp only [Act.put, lS, lZ, lU, i64_w, i32_w]
          rfl
         refine pure_ (i := 12) (N := some 54) (v := ?_) (a' := ?_) #[tt,tt,tt,tt,tt,tt,tt,tt,tt,ff,ff,tt,tt,ff,ff,ff,ff,ff,ff] rfl rfl (any_of HT_.out (by kernel_rfl)) (fun _ _ _ h => h) (Or.inl ⟨by rfl, ?_⟩) ?_ ?_
         rotate_left
         ·intro w'
          go_simp
          with_reducible rfl
         rotate_left
         ·simp only [Act.put, lS, lZ, lU, i64_w, i32_w]
          rfl
         refine pure_ (i := 13) (N := some 55) (v := ?_) (a' := ?_) #[tt,tt,tt,tt,tt,tt,tt,tt,tt,ff,ff,tt,tt,tt,ff,ff,ff,ff,ff] rfl rfl (any_of HT_.out (by kernel_rfl)) (fun _ _ _ h => h) (Or.inl ⟨by rfl, ?_⟩) ?_ ?_
         rotate_left
         ·intro w'
          go_simp
          with_reducible rfl
         rotate_left
         ·simp only [Act.put, lS, lZ, lU, i64_w, i32_w]
          rfl
         refine pure_ (i := 14) (N := some 56) (v := ?_) (a' := ?_) #[tt,tt,tt,tt,tt,tt,tt,tt,tt,ff,ff,tt,tt,tt,tt,ff,ff,ff,ff] rfl rfl (any_of HT_.out (by kernel_rfl)) (fun _ _ _ h => h) (Or.inl ⟨by rfl, ?_⟩) ?_ ?_
         rotate_left
         ·intro w'
          go_simp
          with_reducible rfl
         rotate_left
         ·simp only [Act.put, lS, lZ, lU, i64_w, i32_w]
          rfl
         refine pure_ (i := 15) (N := some 57) (v := ?_) (a' := ?_) #[tt,tt,tt,tt,tt,tt,tt,tt,tt,ff,ff,tt,tt,tt,tt,tt,ff,ff,ff] rfl rfl (any_of HT_.out (by kernel_rfl)) (fun _ _ _ h => h) (Or.inl ⟨by rfl, ?_⟩) ?_ ?_
         rotate_left
         ·intro w'
          go_simp
          with_reducible rfl
         rotate_left
         ·simp only [Act.put, lS, lZ, lU, i64_w, i32_w]
          rfl
         refine take_ (i := 9) (N := some 51) (v := ?_) (a' := ?_) #[tt,tt,tt,tt,tt,tt,tt,tt,tt,tt,ff,tt,tt,tt,tt,tt,ff,ff,ff] rfl rfl (take_ofW HT_.out HW_.out (by kernel_rfl)) (fun _ _ _ h => h) (Or.inl ⟨by rfl, ?_⟩) hHeld ?_ ?_
         rotate_left
         ·rintro w' ⟨s0, s1, s2, s3⟩
          go_simp
          with_reducible rfl
         rotate_left
         ·simp only [Act.put, lS, lZ, lU, i64_w, i32_w]
          rfl
         refine take_ (i := 16) (N := some 58) (v := ?_) (a' := ?_) #[tt,tt,tt,tt,tt,tt,tt,tt,tt,tt,ff,tt,tt,tt,tt,tt,tt,ff,ff] rfl rfl (take_ofW HT_.out HW_.out (by kernel_rfl)) (fun _ _ _ h => h) (Or.inl ⟨by rfl, ?_⟩) hHeld ?_ ?_
         rotate_left
         ·rintro w' ⟨s0, s1, s2, s3⟩
          go_simp
          with_reducible rfl
         rotate_left
         ·simp only [Act.put, lS, lZ, lU, i64_w, i32_w]
          rfl
         refine one_ (i := 10) (N := some 52) (msk 17 2) rfl rfl (one_of HT_.out (by kernel_rfl)) (by decide) (fun K hK => ?_)
         refine goes_ Try.func45 (by kernel_rfl) rfl #[.agg #[.int .i64 ((rd_T32 t138 x6_4).f0), .int .i64 ((rd_T32 t138 x6_4).f1)]] (by rfl) rfl rfl (by (try simp only [lM, lC, lN]); first | done | rfl | (simp only [lD, lT]; rfl)) ?_
         with_reducible refine (runs_end.calls ((rd_T32 t138 x6_4).f0) ((rd_T32 t138 x6_4).f1) t142 _ A52.out).mono ?_
         rintro e w57 ⟨rfl, hb⟩
         have HS0_ := (hb.cell (wL _ _ (hHeld.1))).trans (hHeld.1)
         have HS1_ := (hb.cell (wL _ _ (hHeld.2.1))).trans (hHeld.2.1)
         have HS2_ := (hb.cell (wL _ _ (hHeld.2.2.1))).trans (hHeld.2.2.1)
         have HS3_ := (hb.cell (wL _ _ (hHeld.2.2.2))).trans (hHeld.2.2.2)
         refine ⟨_, rfl, ?_⟩
         have n0_ := aM (rB (by (with_reducible repeat (first | apply rA | apply rN | apply rD)); exact HO140.out) hb)
         have n1_ := aM (bB (g := gb126) (o := .cells #[.int .i64 a1_0, .int .i64 a1_1] 32 (0, 0)) (by (with_reducible repeat (first | refine bN ?_ _ | refine bD ?_ | refine bA ?_ _)); exact BK126.out) hb)
         have n2_ := aM (wT (by repeat (first | (with_reducible first | exact HB.out | apply wA | apply wN_ | apply wD | refine wS ?_ GE126.out) | exact HB.out)) hb)
         clear HO140
         clear BK126
         clear HB
         have HO140 := n0_
         have BK126 := n1_
         have HB := n2_
         clear n0_ n1_ n2_
         (try clear hb)
         (try clear hb2)
         (try clear hk)
         (try clear hi)
         refine hK.out _ _ ⟨HS0_, HS1_, HS2_, HS3_⟩ (fun hHeld => ?_)
         clear hK K
         refine norm_ (a' := ?_) ?_ ?_
         rotate_left
         ·show Act.put _ (some 52) _ = _
          simp only [Act.put, lS, lZ, lU, i64_w, i32_w]
          rfl
         refine pure_ (i := 17) (N := some 59) (v := ?_) (a' := ?_) (msk 18 1) rfl rfl (any_of HT_.out (by kernel_rfl)) (fun _ _ _ h => h) (Or.inl ⟨by rfl, ?_⟩) ?_ ?_
         rotate_left
         ·intro w'
          go_simp
          with_reducible rfl
         rotate_left
         ·simp only [Act.put, lS, lZ, lU, i64_w, i32_w]
          rfl
         refine pure_ (i := 18) (N := some 60) (v := ?_) (a' := ?_) (msk 19 0) rfl rfl (any_of HT_.out (by kernel_rfl)) (fun _ _ _ h => h) (Or.inl ⟨by rfl, ?_⟩) ?_ ?_
         rotate_left
         ·intro w'
          go_simp
          with_reducible rfl
         rotate_left
         ·simp only [Act.put, lS, lZ, lU, i64_w, i32_w]
          rfl
         refine done_ (done_of HT_.out (by kernel_rfl)) ?_
         try go_wp2_with (first|(with_reducible refine wp_scope_body ?_)|(go_step3))
         go_meet
         case rel => exact ⟨_,((t142 == ((rd_T32 t138 (ji53)).f0))),(by first|rfl|(simp;done)|(simp only [← hji53] <;> (first|rfl|simp))|(simp [*];done)),H',⟨by have:=HJ4.out;first|omega|exact Nat.le_refl _⟩,⟨by (with_reducible repeat (first|apply rA|apply rN|apply rD));exact HO140.out⟩,⟨by (with_reducible repeat (first|refine bN ?_ _|refine bD ?_|refine bA ?_ _));exact BK126.out⟩,⟨by repeat (first|(with_reducible first|exact HB.out|apply wA|apply wN_|apply wD|refine wS ?_ GE126.out)|exact HB.out)⟩⟩
        ·rw [if_neg c54] at H
         exact absurd H (by simp)
       ·rw [if_neg c51] at H
        exact absurd H (by simp)
      ·rw [if_neg c50] at H
       exact absurd H (by simp)
     ·rw [if_neg c49] at H
      have c49b0 : decide ((wrap64 (x6_4 + 1)) < (t138.length : Int)) = false := decide_eq_false c49
      clear c49
      (first | rw [c49b0] | (simp only [i64_w, i32_w]; rw [c49b0]) | skip)
      have H' := aM H
      clear H
      try go_wp2_with (first|(with_reducible refine wp_scope_body ?_)|(go_step3))
      have n0_ := aM (rD HO140.out)
      have n1_ := aM (bD BK126.out)
      have n2_ := aM (wD HB.out)
      clear HO140
      clear BK126
      clear HB
      have HO140 := n0_
      have BK126 := n1_
      have HB := n2_
      clear n0_ n1_ n2_
      obtain ⟨Ao59, co59, eo59⟩ := Kd.R_slice HO140.out
      (first | subst eo59 | (injection eo59 with f1_ f2_ f3_; have f4_ := f1_.symm; have f5_ := f3_.symm; clear f1_ f2_ f3_; subst f4_; subst f5_))
      refine start_ (n := 19) (S := fun w' => True) (ds := []) (msk 0 19) (by kernel_rfl) rfl rfl trivial (fun hHeld => ?_); refine with_tabW runs_Put.tab13 runs_Put.bits13 (fun HT_ HW_ => ?_)
      generalize w48.drew = w58 at HO140 BK126 HB hHeld ⊢
      refine pure_ (i := 0) (N := some 42) (v := ?_) (a' := ?_) (msk 1 18) rfl rfl (any_of HT_.out (by kernel_rfl)) (fun _ _ _ h => h) (Or.inl ⟨by rfl, ?_⟩) ?_ ?_
      rotate_left
      ·intro w'
       go_simp
       with_reducible rfl
      rotate_left
      ·simp only [Act.put, lS, lZ, lU, i64_w, i32_w]
       rfl
      refine pure_ (i := 1) (N := some 43) (v := ?_) (a' := ?_) (msk 2 17) rfl rfl (any_of HT_.out (by kernel_rfl)) (fun _ _ _ h => h) (Or.inl ⟨by rfl, ?_⟩) ?_ ?_
      rotate_left
      ·intro w'
       go_simp
       with_reducible rfl
      rotate_left
      ·simp only [Act.put, lS, lZ, lU, i64_w, i32_w]
       rfl
      refine pure_ (i := 2) (N := some 44) (v := ?_) (a' := ?_) (msk 3 16) rfl rfl (any_of HT_.out (by kernel_rfl)) (fun _ _ _ h => h) (Or.inl ⟨by rfl, ?_⟩) ?_ ?_
      rotate_left
      ·intro w'
       go_simp
       with_reducible rfl
      rotate_left
      ·simp only [Act.put, lS, lZ, lU, i64_w, i32_w]
       rfl
      refine pure_ (i := 3) (N := some 45) (v := ?_) (a' := ?_) (msk 4 15) rfl rfl (any_of HT_.out (by kernel_rfl)) (fun _ _ _ h => h) (Or.inl ⟨by rfl, ?_⟩) ?_ ?_
      rotate_left
      ·intro w'
       go_simp
       with_reducible rfl
      rotate_left
      ·simp only [Act.put, lS, lZ, lU, i64_w, i32_w]
       rfl
      refine pure_ (i := 4) (N := some 46) (v := ?_) (a' := ?_) (msk 5 14) rfl rfl (any_of HT_.out (by kernel_rfl)) (fun _ _ _ h => h) (Or.inl ⟨by rfl, ?_⟩) ?_ ?_
      rotate_left
      ·intro w'
       go_simp
       with_reducible rfl
      rotate_left
      ·simp only [Act.put, lS, lZ, lU, i64_w, i32_w]
       rfl
      refine pure_ (i := 5) (N := some 47) (v := ?_) (a' := ?_) (msk 6 13) rfl rfl (any_of HT_.out (by kernel_rfl)) (fun _ _ _ h => h) (Or.inl ⟨by rfl, ?_⟩) ?_ ?_
      rotate_left
      ·intro w'
       go_simp
       with_reducible rfl
      rotate_left
      ·simp only [Act.put, lS, lZ, lU, i64_w, i32_w]
       rfl
      refine pure_ (i := 6) (N := some 48) (v := undef) (a' := ?_) (msk 7 12) rfl rfl (any_of HT_.out (by kernel_rfl)) (fun _ _ _ h => h) (Or.inr ⟨by rfl, rfl⟩) ?_ ?_
      rotate_left
      ·simp only [Act.put, lS, lZ, lU, i64_w, i32_w]
       rfl
      refine pure_ (i := 7) (N := some 49) (v := undef) (a' := ?_) (msk 8 11) rfl rfl (any_of HT_.out (by kernel_rfl)) (fun _ _ _ h => h) (Or.inr ⟨by rfl, rfl⟩) ?_ ?_
      rotate_left
      ·simp only [Act.put, lS, lZ, lU, i64_w, i32_w]
       rfl
      refine pure_ (i := 8) (N := some 50) (v := undef) (a' := ?_) (msk 9 10) rfl rfl (any_of HT_.out (by kernel_rfl)) (fun _ _ _ h => h) (Or.inr ⟨by rfl, rfl⟩) ?_ ?_
      rotate_left
      ·simp only [Act.put, lS, lZ, lU, i64_w, i32_w]
       rfl
      refine pure_ (i := 9) (N := some 51) (v := undef) (a' := ?_) (msk 10 9) rfl rfl (any_of HT_.out (by kernel_rfl)) (fun _ _ _ h => h) (Or.inr ⟨by rfl, rfl⟩) ?_ ?_
      rotate_left
      ·simp only [Act.put, lS, lZ, lU, i64_w, i32_w]
       rfl
      refine pure_ (i := 10) (N := some 52) (v := undef) (a' := ?_) (msk 11 8) rfl rfl (any_of HT_.out (by kernel_rfl)) (fun _ _ _ h => h) (Or.inr ⟨by rfl, rfl⟩) ?_ ?_
      rotate_left
      ·simp only [Act.put, lS, lZ, lU, i64_w, i32_w]
       rfl
      refine pure_ (i := 11) (N := some 53) (v := undef) (a' := ?_) (msk 12 7) rfl rfl (any_of HT_.out (by kernel_rfl)) (fun _ _ _ h => h) (Or.inr ⟨by rfl, rfl⟩) ?_ ?_
      rotate_left
      ·simp only [Act.put, lS, lZ, lU, i64_w, i32_w]
       rfl
      refine pure_ (i := 12) (N := some 54) (v := undef) (a' := ?_) (msk 13 6) rfl rfl (any_of HT_.out (by kernel_rfl)) (fun _ _ _ h => h) (Or.inr ⟨by rfl, rfl⟩) ?_ ?_
      rotate_left
      ·simp only [Act.put, lS, lZ, lU, i64_w, i32_w]
       rfl
      refine pure_ (i := 13) (N := some 55) (v := undef) (a' := ?_) (msk 14 5) rfl rfl (any_of HT_.out (by kernel_rfl)) (fun _ _ _ h => h) (Or.inr ⟨by rfl, rfl⟩) ?_ ?_
      rotate_left
      ·simp only [Act.put, lS, lZ, lU, i64_w, i32_w]
       rfl
      refine pure_ (i := 14) (N := some 56) (v := undef) (a' := ?_) (msk 15 4) rfl rfl (any_of HT_.out (by kernel_rfl)) (fun _ _ _ h => h) (Or.inr ⟨by rfl, rfl⟩) ?_ ?_
      rotate_left
      ·simp only [Act.put, lS, lZ, lU, i64_w, i32_w]
       rfl
      refine pure_ (i := 15) (N := some 57) (v := undef) (a' := ?_) (msk 16 3) rfl rfl (any_of HT_.out (by kernel_rfl)) (fun _ _ _ h => h) (Or.inr ⟨by rfl, rfl⟩) ?_ ?_
      rotate_left
      ·simp only [Act.put, lS, lZ, lU, i64_w, i32_w]
       rfl
      refine pure_ (i := 16) (N := some 58) (v := undef) (a' := ?_) (msk 17 2) rfl rfl (any_of HT_.out (by kernel_rfl)) (fun _ _ _ h => h) (Or.inr ⟨by rfl, rfl⟩) ?_ ?_
      rotate_left
      ·simp only [Act.put, lS, lZ, lU, i64_w, i32_w]
       rfl
      refine pure_ (i := 17) (N := some 59) (v := undef) (a' := ?_) (msk 18 1) rfl rfl (any_of HT_.out (by kernel_rfl)) (fun _ _ _ h => h) (Or.inr ⟨by rfl, rfl⟩) ?_ ?_
      rotate_left
      ·simp only [Act.put, lS, lZ, lU, i64_w, i32_w]
       rfl
      refine pure_ (i := 18) (N := some 60) (v := ?_) (a' := ?_) (msk 19 0) rfl rfl (any_of HT_.out (by kernel_rfl)) (fun _ _ _ h => h) (Or.inl ⟨by rfl, ?_⟩) ?_ ?_
      rotate_left
      ·intro w'
       go_simp
       with_reducible rfl
      rotate_left
      ·simp only [Act.put, lS, lZ, lU, i64_w, i32_w]
       rfl
      refine done_ (done_of HT_.out (by kernel_rfl)) ?_
      try go_wp2_with (first|(with_reducible refine wp_scope_body ?_)|(go_step3))
      go_meet
      case rel => exact ⟨_,(false),(by first|rfl|(simp;done)|(simp [*];done)),H',⟨by have:=HJ4.out;first|omega|exact Nat.le_refl _⟩,⟨by (with_reducible repeat (first|apply rA|apply rN|apply rD));exact HO140.out⟩,⟨by (with_reducible repeat (first|refine bN ?_ _|refine bD ?_|refine bA ?_ _));exact BK126.out⟩,⟨by repeat (first|(with_reducible first|exact HB.out|apply wA|apply wN_|apply wD|refine wS ?_ GE126.out)|exact HB.out)⟩⟩
    case rest =>
     clear HC40
     try clear p1
     try clear q1
     try clear hx1
     try clear c2
     try clear p2
     try clear p3
     try clear c4
     try clear c5
     try clear p6
     try clear p14
     try clear q14
     try clear hx14
     try clear c42
     try clear c45
     try clear c46
     try clear c49
     try clear c49b0
     try clear c50
     try clear c50b0
     try clear c51
     try clear c51b0
     try clear c54
     try clear c54b0
     try clear hx141_0
     try clear hx141_1
     try clear hx143_0
     try clear hx143_1
     try clear p141
     try clear p143
     try clear q141
     try clear q143
     obtain ⟨kq, x60_39, rfl, HA, HJ39, HO_9, BK126, HB⟩ := hcut
     cases kq with
     | zero => exact absurd HA.out (by simp [runs_Put.j2])
     | succ kj39 =>
      have H := HA.out
      clear HA
      simp only [runs_Put.j2] at H
      have HC60 := aM H
      clear H
      go_upto_if 60 with (first | (with_reducible refine wp_scope_body ?_) | (go_step3))
      go_cut [9] (fun v9 wc => ∃ (kq : Nat) (x9_59 : List (S32)) (x127001_59 : Int), Aside0 (runs_Put.j3 kq x6_4 x9_59 = some (r1, r2)) ∧ Aside0 (kq ≤ kj39) ∧ Aside0 (Kd.R k32 32 wc w.heap.size (fun k_ => k_ ≠ gb126) v9 x9_59) ∧ Aside0 (wc.heap[gb126]? = some (.cells #[.int .i64 a1_0, .int .i64 x127001_59] 32 (0, 0))) ∧ Aside0 (Below w.heap.size w wc))
      case first =>
       have H := HC60.out
       clear HC60
       by_cases c61 : x60_39 = true
       ·subst c61
        have H1 : (if 0 ≤ x6_4 then (if x6_4 < (t138.length : Int) then (if 0 ≤ (wrap64 (x6_4 + 1)) then (if (wrap64 (x6_4 + 1)) < (t138.length : Int) then ((api_Run_43.f (t138.set (x6_4 : Int).toNat (⟨(rd_T32 t138 x6_4).f0, wrap64 (((rd_T32 t138 x6_4).f1) + ((rd_T32 t138 (wrap64 (x6_4 + 1))).f1))⟩ : S32)) (wrap64 (x6_4 + 1)) (wrap64 (x6_4 + 2))).bind fun t147 => (runs_Put.j3 kj39 x6_4 t147)) else (none)) else (none)) else (none)) else (none)) = some (r1, r2) := by rw [if_pos rfl] at H; exact H
        clear H
        have H := H1
        clear H1
        by_cases c62 : 0 ≤ x6_4
        ·rw [if_pos c62] at H
         have c62b0 : decide (0 ≤ x6_4) = true := decide_eq_true c62
         clear c62
         (first | rw [c62b0] | (simp only [i64_w, i32_w]; rw [c62b0]) | skip)
         by_cases c63 : x6_4 < (t138.length : Int)
         ·rw [if_pos c63] at H
          have c63b0 : decide (x6_4 < (t138.length : Int)) = true := decide_eq_true c63
          clear c63
          obtain ⟨ji64, hji64⟩ : ∃ j_ : Int, (wrap64 (x6_4 + 1)) = j_ := ⟨_, rfl⟩
          replace H : (if 0 ≤ (ji64) then (if (ji64) < (t138.length : Int) then ((api_Run_43.f (t138.set (x6_4 : Int).toNat (⟨(rd_T32 t138 x6_4).f0, wrap64 (((rd_T32 t138 x6_4).f1) + ((rd_T32 t138 (ji64)).f1))⟩ : S32)) (ji64) (wrap64 (x6_4 + 2))).bind fun t147 => (runs_Put.j3 kj39 x6_4 t147)) else (none)) else (none)) = some (r1, r2) := by first | (rw [hji64] at H; exact H) | (simp only [hji64] at H ⊢; exact H)
          have hji64w : (IntKind.i64.wrap (x6_4 + 1)) = ji64 := (i64_w _).trans hji64
          by_cases c65 : 0 ≤ (ji64)
          ·rw [if_pos c65] at H
           have c65b0 : decide (0 ≤ (ji64)) = true := decide_eq_true c65
           clear c65
           by_cases c66 : (ji64) < (t138.length : Int)
           ·rw [if_pos c66] at H
            have c66b0 : decide ((ji64) < (t138.length : Int)) = true := decide_eq_true c66
            clear c66
            obtain ⟨y146, hy146⟩ : ∃ y_ : List (S32), y_ = (t138.set (x6_4 : Int).toNat (⟨(rd_T32 t138 x6_4).f0, wrap64 (((rd_T32 t138 x6_4).f1) + ((rd_T32 t138 (ji64)).f1))⟩ : S32)) := ⟨_, rfl⟩
            replace H : ((api_Run_43.f y146 (ji64) (wrap64 (x6_4 + 2))).bind fun t147 => (runs_Put.j3 kj39 x6_4 t147)) = some (r1, r2) := by first | (rw [hy146]; with_reducible exact H) | (have H2_ := (Option.bind_some _ _).symm.trans H; rw [hy146]; with_reducible exact H2_) | (have H2_ := (Option.bind_some _ _).symm.trans H; with_reducible exact H2_) | with_reducible exact H | (rw [hy146]; exact H) | exact H
            have Ny146 := aM hy146
            clear hy146
            replace H := Option.bind_eq_some_iff.mp H
            obtain ⟨t147, A680, H⟩ := H
            replace H : (runs_Put.j3 kj39 x6_4 t147) = some (r1, r2) := H
            have A68 := aM A680
            clear A680
            have H' := aM H
            clear H
            try go_wp2_with (first|(with_reducible refine wp_scope_body ?_)|(go_step3))
            have n0_ := aM (rD HO_9.out)
            have n1_ := aM (bD BK126.out)
            have n2_ := aM (wD HB.out)
            clear HO_9
            clear BK126
            clear HB
            have HO_9 := n0_
            have BK126 := n1_
            have HB := n2_
            clear n0_ n1_ n2_
            obtain ⟨Ao70, co70, eo70⟩ := Kd.R_slice HO_9.out
            (first | subst eo70 | (injection eo70 with f1_ f2_ f3_; have f4_ := f1_.symm; have f5_ := f3_.symm; clear f1_ f2_ f3_; subst f4_; subst f5_))
            have p144 : 0 ≤ (x6_4 : Int) := oD (by first | (with_reducible assumption) | assumption)
            have q144 : x6_4 < (t138.length : Int) := oD (by first | (with_reducible assumption) | assumption)
            obtain ⟨ad144, e144, hx144_0, hx144_1⟩ := at_T32 (Kd.R_reads' HO_9.out).2.2 x6_4 p144 q144
            cases e144
            replace p144 := eq_true p144
            replace q144 := eq_true q144
            have p145 : 0 ≤ ((ji64) : Int) := oD (by first | (with_reducible assumption) | assumption)
            have q145 : (ji64) < (t138.length : Int) := oD (by first | (with_reducible assumption) | assumption)
            obtain ⟨ad145, e145, hx145_0, hx145_1⟩ := at_T32 (Kd.R_reads' HO_9.out).2.2 (ji64) p145 q145
            obtain rfl : ad144 = ad145 := (by injection e145)
            replace p145 := eq_true p145
            replace q145 := eq_true q145
            have p67 : 0 ≤ (x6_4 : Int) := oD (by first | (with_reducible assumption) | assumption)
            have q67 : (x6_4 : Int) < ((t138.length : Int) : Int) := oD (by first | (with_reducible assumption) | assumption)
            obtain ⟨go67, co67, eo67, gb67, gl67, cl67, HG67⟩ := Kd.R_form HO_9.out (by omega)
            (first | cases eo67 | (injection eo67 with ea_ en_ ec_; (first | subst ea_ | (injection ea_ with ea_; subst ea_)); subst ec_; clear en_))
            have GB67 := aM gb67
            have GG67 := aM HG67
            clear gb67 gl67 HG67
            (first | simp only [add_plain] at hx144_0 | skip)
            (first | simp only [add_plain] at hx144_1 | skip)
            (first | simp only [add_plain] at hx145_0 | skip)
            (first | simp only [add_plain] at hx145_1 | skip)
            obtain ⟨ce67, hcl67, hM67, hcc67, hfr67⟩ := Kd.R_elem HO_9.out z32 (x6_4 : Int) p67 q67
            obtain rfl := k32_openM hM67
            have hx67_0 : World.cell? _ ⟨go67, (x6_4 : Int).toNat * 2, none⟩ = some (.int .i64 ((rd_T32 t138 x6_4).f0)) := hcc67 0 _ rfl
            have hx67_1 : World.cell? _ ⟨go67, (x6_4 : Int).toNat * 2 + 1, none⟩ = some (.int .i64 ((rd_T32 t138 x6_4).f1)) := hcc67 1 _ rfl
            have hf67_0 : World.frozen? _ ⟨go67, (x6_4 : Int).toNat * 2, none⟩ = false := hfr67 0
            have hf67_1 : World.frozen? _ ⟨go67, (x6_4 : Int).toNat * 2 + 1, none⟩ = false := hfr67 1
            clear hcl67 hcc67 hfr67 hM67
            replace p67 := eq_true p67
            replace q67 := eq_true q67
            obtain ⟨ce71, hcl71, hM71, hcc71, hfr71⟩ := Kd.R_elem HO_9.out z32 (x6_4 : Int) (oD (by first | (with_reducible assumption) | assumption)) (by have h_ : (x6_4 : Int) < ((t138.length : Int) : Int) := oD (by first | (with_reducible assumption) | assumption); first | exact h_ | (have e_ := (Kd.R_reads' HO_9.out).1; omega) | simpa using h_)
            obtain rfl := k32_openM hM71
            have HP71 := (Kd.R_seg HO_9.out (x6_4 : Int) (oD (by first | (with_reducible assumption) | assumption)) (by have h_ : (x6_4 : Int) < ((t138.length : Int) : Int) := oD (by first | (with_reducible assumption) | assumption); first | exact h_ | (have e_ := (Kd.R_reads' HO_9.out).1; omega) | simpa using h_) (seg := [.int .i64 (wrap64 (((rd_T32 t138 x6_4).f1) + ((rd_T32 t138 (ji64)).f1)))]) (j := 1) hcl71 hcc71 (show 2 ≤ 2 from by decide) (x' := (⟨(rd_T32 t138 x6_4).f0, wrap64 (((rd_T32 t138 x6_4).f1) + ((rd_T32 t138 (ji64)).f1))⟩ : S32)) (k32_mkM _ _ _ (⟨(rd_T32 t138 x6_4).f0, wrap64 (((rd_T32 t138 x6_4).f1) + ((rd_T32 t138 (ji64)).f1))⟩ : S32) ) (fun _ hk => hk)).1
            rw [← Ny146.out] at HP71
            have HQ71 := aM HP71
            clear hcl71 hcc71 hfr71 hM71 HP71
            refine start_ (n := 15) (S := fun w' => w'.cell? ⟨go67, ((x6_4).toNat * 2), none⟩ = some (.int .i64 ((rd_T32 t138 x6_4).f0)) ∧ w'.cell? ⟨go67, ((x6_4).toNat * 2) + 1, none⟩ = some (.int .i64 ((rd_T32 t138 x6_4).f1)) ∧ w'.cell? ⟨go67, (((ji64)).toNat * 2), none⟩ = some (.int .i64 ((rd_T32 t138 (ji64)).f0)) ∧ w'.cell? ⟨go67, (((ji64)).toNat * 2) + 1, none⟩ = some (.int .i64 ((rd_T32 t138 (ji64)).f1))) (ds := [14]) #[false, false, false, false, false, false, false, false, false, false, false, false, false, false, false] (by kernel_rfl) rfl rfl ⟨hx144_0, hx144_1, hx145_0, hx145_1⟩ (fun hHeld => ?_); refine with_tabW runs_Put.tab14 runs_Put.bits14 (fun HT_ HW_ => ?_)
            generalize wc.drew = w69 at HO_9 BK126 HB GG67 HQ71 hf67_0 hf67_1 hx144_0 hx144_1 hx145_0 hx145_1 hx67_0 hx67_1 hHeld ⊢
            refine pure_ (i := 0) (N := some 61) (v := ?_) (a' := ?_) #[true, false, false, false, false, false, false, false, false, false, false, false, false, false, false] rfl rfl (any_of HT_.out (by kernel_rfl)) (fun _ _ _ h => h) (Or.inl ⟨by rfl, ?_⟩) ?_ ?_
            rotate_left
            ·intro w'
             go_simp
             with_reducible rfl
            rotate_left
            ·simp only [Act.put, lS, lZ, lU, i64_w, i32_w]
             rfl
            refine pure_ (i := 1) (N := some 62) (v := ?_) (a' := ?_) #[true, true, false, false, false, false, false, false, false, false, false, false, false, false, false] rfl rfl (any_of HT_.out (by kernel_rfl)) (fun _ _ _ h => h) (Or.inl ⟨by rfl, ?_⟩) ?_ ?_
            rotate_left
            ·intro w'
             go_simp
             with_reducible rfl
            rotate_left
            ·simp only [Act.put, lS, lZ, lU, i64_w, i32_w]
             rfl
            refine pure_ (i := 2) (N := some 63) (v := ?_) (a' := ?_) #[true, true, true, false, false, false, false, false, false, false, false, false, false, false, false] rfl rfl (any_of HT_.out (by kernel_rfl)) (fun _ _ _ h => h) (Or.inl ⟨by rfl, ?_⟩) ?_ ?_
            rotate_left
            ·intro w'
             go_simp
             with_reducible rfl
            rotate_left
            ·simp only [Act.put, lS, lZ, lU, i64_w, i32_w]
             rfl
            refine pure_ (i := 3) (N := some 64) (v := ?_) (a' := ?_) #[true, true, true, true, false, false, false, false, false, false, false, false, false, false, false] rfl rfl (any_of HT_.out (by kernel_rfl)) (fun _ _ _ h => h) (Or.inl ⟨by rfl, ?_⟩) ?_ ?_
            rotate_left
            ·intro w'
             go_simp
             with_reducible rfl
            rotate_left
            ·simp only [Act.put, lS, lZ, lU, i64_w, i32_w]
             rfl
            refine pure_ (i := 5) (N := some 66) (v := ?_) (a' := ?_) #[true, true, true, true, false, true, false, false, false, false, false, false, false, false, false] rfl rfl (any_of HT_.out (by kernel_rfl)) (fun _ _ _ h => h) (Or.inl ⟨by rfl, ?_⟩) ?_ ?_
            rotate_left
            ·intro w'
             go_simp
             with_reducible rfl
            rotate_left
            ·simp only [Act.put, lS, lZ, lU, i64_w, i32_w]
             rfl
            refine pure_ (i := 6) (N := some 67) (v := ?_) (a' := ?_) #[true, true, true, true, false, true, true, false, false, false, false, false, false, false, false] rfl rfl (any_of HT_.out (by kernel_rfl)) (fun _ _ _ h => h) (Or.inl ⟨by rfl, ?_⟩) ?_ ?_
            rotate_left
            ·intro w'
             go_simp
             with_reducible rfl
            rotate_left
            ·simp only [Act.put, lS, lZ, lU, i64_w, i32_w]
             rfl
            refine pure_ (i := 7) (N := some 68) (v := ?_) (a' := ?_) #[true, true, true, true, false, true, true, true, false, false, false, false, false, false, false] rfl rfl (any_of HT_.out (by kernel_rfl)) (fun _ _ _ h => h) (Or.inl ⟨by rfl, ?_⟩) ?_ ?_
            rotate_left
            ·intro w'
             go_simp
             with_reducible rfl
            rotate_left
            ·simp only [Act.put, lS, lZ, lU, i64_w, i32_w]
             rfl
            refine pure_ (i := 8) (N := some 69) (v := ?_) (a' := ?_) #[true, true, true, true, false, true, true, true, true, false, false, false, false, false, false] rfl rfl (any_of HT_.out (by kernel_rfl)) (fun _ _ _ h => h) (Or.inl ⟨by rfl, ?_⟩) ?_ ?_
            rotate_left
            ·intro w'
             go_simp
             with_reducible rfl
            rotate_left
            ·simp only [Act.put, lS, lZ, lU, i64_w, i32_w]
             rfl
            refine pure_ (i := 9) (N := some 70) (v := ?_) (a' := ?_) #[true, true, true, true, false, true, true, true, true, true, false, false, false, false, false] rfl rfl (any_of HT_.out (by kernel_rfl)) (fun _ _ _ h => h) (Or.inl ⟨by rfl, ?_⟩) ?_ ?_
            rotate_left
            ·intro w'
             go_simp
             with_reducible rfl
            rotate_left
            ·simp only [Act.put, lS, lZ, lU, i64_w, i32_w]
             rfl
            refine take_ (i := 4) (N := some 65) (v := ?_) (a' := ?_) #[true, true, true, true, true, true, true, true, true, true, false, false, false, false, false] rfl rfl (take_ofW HT_.out HW_.out (by kernel_rfl)) (fun _ _ _ h => h) (Or.inl ⟨by rfl, ?_⟩) hHeld ?_ ?_
            rotate_left
            ·rintro w' ⟨s0, s1, s2, s3⟩
             go_simp
             with_reducible rfl
            rotate_left
            ·simp only [Act.put, lS, lZ, lU, i64_w, i32_w]
             rfl
            refine take_ (i := 10) (N := some 71) (v := ?_) (a' := ?_) #[true, true, true, true, true, true, true, true, true, true, true, false, false, false, false] rfl rfl (take_ofW HT_.out HW_.out (by kernel_rfl)) (fun _ _ _ h => h) (Or.inl ⟨by rfl, ?_⟩) hHeld ?_ ?_
            rotate_left
            ·rintro w' ⟨s0, s1, s2, s3⟩
             go_simp
             with_reducible rfl
            rotate_left
            ·simp only [Act.put, lS, lZ, lU, i64_w, i32_w]
             rfl
            refine pure_ (i := 11) (N := some 72) (v := ?_) (a' := ?_) #[true, true, true, true, true, true, true, true, true, true, true, true, false, false, false] rfl rfl (any_of HT_.out (by kernel_rfl)) (fun _ _ _ h => h) (Or.inl ⟨by rfl, ?_⟩) ?_ ?_
            rotate_left
            ·intro w'
             go_simp
             with_reducible rfl
            rotate_left
            ·simp only [Act.put, lS, lZ, lU, i64_w, i32_w]
             rfl
            refine pure_ (i := 12) (N := some 73) (v := ?_) (a' := ?_) #[true, true, true, true, true, true, true, true, true, true, true, true, true, false, false] rfl rfl (any_of HT_.out (by kernel_rfl)) (fun _ _ _ h => h) (Or.inl ⟨by rfl, ?_⟩) ?_ ?_
            rotate_left
            ·intro w'
             go_simp
             with_reducible rfl
            rotate_left
            ·simp only [Act.put, lS, lZ, lU, i64_w, i32_w]
             rfl
            refine pure_ (i := 13) (N := some 74) (v := ?_) (a' := ?_) #[true, true, true, true, true, true, true, true, true, true, true, true, true, true, false] rfl rfl (any_of HT_.out (by kernel_rfl)) (fun _ _ _ h => h) (Or.inl ⟨by rfl, ?_⟩) ?_ ?_
            rotate_left
            ·intro w'
             go_simp
             with_reducible rfl
            rotate_left
            ·simp only [Act.put, lS, lZ, lU, i64_w, i32_w]
             rfl
            refine last_ (i := 14) (N := none) #[true, true, true, true, true, true, true, true, true, true, true, true, true, true, true] rfl rfl (one_of HT_.out (by kernel_rfl)) (by decide) (fun K hK => ?_)
            refine skip_ (w1 := ?_) (by rfl) rfl ?_ ?_
            rotate_left
            ·go_simp
             rfl
            refine hK.out _ _ ?_
            clear hK K
            refine done_ (done_of HT_.out (by kernel_rfl)) ?_
            have n0_ : Aside0 (Kd.R k32 32 (w69.setCell ⟨go67, (x6_4 : Int).toNat * 2 + 1, none⟩ (.int .i64 (wrap64 (((rd_T32 t138 x6_4).f1) + ((rd_T32 t138 (ji64)).f1))))) w.heap.size (fun k_ => k_ ≠ gb126) (.slice (some ⟨go67, 0, none⟩) t138.length co70) y146) := ⟨by (with_reducible repeat (first | apply rA | apply rN | apply rD)); exact HQ71.out⟩
            have n1_ : Aside0 ((w69.setCell ⟨go67, (x6_4 : Int).toNat * 2 + 1, none⟩ (.int .i64 (wrap64 (((rd_T32 t138 x6_4).f1) + ((rd_T32 t138 (ji64)).f1))))).heap[gb126]? = some (.cells #[.int .i64 a1_0, .int .i64 a1_1] 32 (0, 0))) := ⟨by (with_reducible repeat (first | refine bN ?_ _ | refine bD ?_ | refine bA ?_ _)); refine bR ?_ (by have h_ := Kd.R_away HO_9.out (fun _ hk => hk); intro e_; exact h_ (by rw [e_]; rfl)) _; (with_reducible repeat (first | refine bN ?_ _ | refine bD ?_ | refine bA ?_ _)); exact BK126.out⟩
            have n2_ : Aside0 (Below w.heap.size w (w69.setCell ⟨go67, (x6_4 : Int).toNat * 2 + 1, none⟩ (.int .i64 (wrap64 (((rd_T32 t138 x6_4).f1) + ((rd_T32 t138 (ji64)).f1)))))) := ⟨by repeat (first | (with_reducible first | exact HB.out | apply wA | apply wN_ | apply wD | refine wS ?_ GB67.out | refine wS ?_ GE126.out) | exact HB.out)⟩
            (try clear HO_9)
            (try clear BK126)
            (try clear HB)
            generalize (w69.setCell ⟨go67, (x6_4 : Int).toNat * 2 + 1, none⟩ (.int .i64 (wrap64 (((rd_T32 t138 x6_4).f1) + ((rd_T32 t138 (ji64)).f1))))) = w72 at n0_ n1_ n2_ ⊢
            have HO_9 := n0_
            have BK126 := n1_
            have HB := n2_
            clear n0_ n1_ n2_
            try go_wp2_with (first|(with_reducible refine wp_scope_body ?_)|(go_step3)|((with_reducible refine gate_callee (f:=43) rfl ?_);refine goesL_ (some 80) rfl rfl Try.func43 (by kernel_rfl) rfl #[.slice (some ⟨go67,0,none⟩) t138.length co70,.int .i64 ji64,.int .i64 (wrap64 (x6_4 + 2))] rfl (by (try simp only [lM,lC,lN]);first|done|(simp only [hji64];rfl)|rfl|(simp only [lD,lT];rfl)) ?_;(with_reducible refine (api_Run_43.calls (fun k_ => some k_ = (.slice (some ⟨go67,0,none⟩) t138.length co70 : Value).ownBlock) (.slice (some ⟨go67,0,none⟩) t138.length co70) y146 ji64 (wrap64 (x6_4 + 2)) t147 w _ ?side1 ?side2 A68.out).mono ?_);(case side1 => repeat (first|(with_reducible first|exact HB.out|apply wA|apply wN_|apply wD|refine wS ?_ GE126.out)|exact HB.out));(case side2 => exact Kd.R_tight rfl HO_9.out);rintro e w73 ⟨v148,rfl,ho0,hb,hkp⟩;refine ⟨_,rfl,?_⟩;have n0_:=aM (blk_kept (by (with_reducible repeat (first|refine bN ?_ _|refine bD ?_|refine bA ?_ _));exact BK126.out) hkp (fun hs_ => (fun e_ => (Kd.R_away HO_9.out (fun _ hk => hk)) e_) hs_));have n1_:=aM (rM (ok':=fun k_ => k_ ≠ gb126) ho0 (fun k_ hk_ => Or.elim hk_ (fun hs_ => fun e_ => (Kd.R_away HO_9.out (fun _ hk => hk)) (by rw [← e_];exact hs_)) (fun hn_ => (Kd.freshB (g:=gb126) (o:=.cells #[.int .i64 a1_0,.int .i64 a1_1] 32 (0,0)) (by (with_reducible repeat (first|refine bN ?_ _|refine bD ?_|refine bA ?_ _));exact BK126.out) k_ hn_))));have n2_:=aM (hb);clear BK126;clear HB;clear HO_9;have BK126:=n0_;have HO149:=n1_;have HB:=n2_;clear n0_ n1_ n2_;(try clear hb);(try clear hkp);(try clear ho0)))
            go_meet
            case rel => exact ⟨_,(t147),(a1_1),H',⟨by have:=HJ4.out;have:=HJ39.out;first|omega|exact Nat.le_refl _⟩,⟨by (with_reducible repeat (first|apply rA|apply rN|apply rD));exact HO149.out⟩,⟨by (with_reducible repeat (first|refine bN ?_ _|refine bD ?_|refine bA ?_ _));exact BK126.out⟩,⟨by repeat (first|(with_reducible first|exact HB.out|apply wA|apply wN_|apply wD|refine wS ?_ GE126.out)|exact HB.out)⟩⟩
           ·rw [if_neg c66] at H
            exact absurd H (by simp)
          ·rw [if_neg c65] at H
           exact absurd H (by simp)
         ·rw [if_neg c63] at H
          exact absurd H (by simp)
        ·rw [if_neg c62] at H
         exact absurd H (by simp)
       ·replace c61 := Bool.eq_false_iff.mpr c61
        subst c61
        have H1 : (runs_Put.j3 kj39 x6_4 t138) = some (r1, r2) := by rw [if_neg (show ¬ (false = true) by decide)] at H; exact H
        clear H
        have H := H1
        clear H1
        have H' := aM H
        clear H
        go_wp2_with (first|(with_reducible refine wp_scope_body ?_)|(go_step3))
        go_meet
        case rel => exact ⟨_,(t138),(a1_1),H',⟨by have:=HJ4.out;have:=HJ39.out;first|omega|exact Nat.le_refl _⟩,⟨by (with_reducible repeat (first|apply rA|apply rN|apply rD));exact HO_9.out⟩,⟨by (with_reducible repeat (first|refine bN ?_ _|refine bD ?_|refine bA ?_ _));exact BK126.out⟩,⟨by repeat (first|(with_reducible first|exact HB.out|apply wA|apply wN_|apply wD|refine wS ?_ GE126.out)|exact HB.out)⟩⟩
      case rest =>
       clear HC60
       try clear p1
       try clear q1
       try clear hx1
       try clear c2
       try clear p2
       try clear p3
       try clear c4
       try clear c5
       try clear c6
       try clear p6
       try clear q6
       try clear hx6
       try clear hf6
       try clear c7
       try clear p14
       try clear q14
       try clear hx14
       try clear c42
       try clear c43
       try clear c45
       try clear c46
       try clear c49
       try clear c49b0
       try clear c50
       try clear c50b0
       try clear c51
       try clear c51b0
       try clear c54
       try clear c54b0
       try clear c61
       try clear c62
       try clear c62b0
       try clear c63
       try clear c63b0
       try clear p64
       try clear c65
       try clear c65b0
       try clear c66
       try clear c66b0
       try clear c67
       try clear p67
       try clear q67
       try clear hx67
       try clear hf67
       try clear c71
       try clear hx141_0
       try clear hx141_1
       try clear hx143_0
       try clear hx143_1
       try clear hx144_0
       try clear hx144_1
       try clear hx145_0
       try clear hx145_1
       try clear hx67_0
       try clear hx67_1
       try clear p1
       try clear p14
       try clear p141
       try clear p143
       try clear p144
       try clear p145
       try clear p2
       try clear p3
       try clear p6
       try clear p67
       try clear q1
       try clear q14
       try clear q141
       try clear q143
       try clear q144
       try clear q145
       try clear q67
       obtain ⟨kq, x9_59, x127001_59, HA, HJ59, HO_9, BK126, HB⟩ := hcut
       cases kq with
       | zero => exact absurd HA.out (by simp [runs_Put.j3])
       | succ kj59 =>
        have H := HA.out
        clear HA
        simp only [runs_Put.j3] at H
        by_cases c74 : x6_4 > 0
        ·rw [if_pos c74] at H
         have c74b0 : decide (0 < x6_4) = true := decide_eq_true c74
         clear c74
         obtain ⟨ji75, hji75⟩ : ∃ j_ : Int, (wrap64 (x6_4 - 1)) = j_ := ⟨_, rfl⟩
         replace H : (if 0 ≤ (ji75) then (if (ji75) < (x9_59.length : Int) then ((runs_end.f ((rd_T32 x9_59 (ji75)).f0) ((rd_T32 x9_59 (ji75)).f1)).bind fun t151 => (if 0 ≤ x6_4 then (if x6_4 < (x9_59.length : Int) then (if t151 = ((rd_T32 x9_59 x6_4).f0) then ((api_Run_43.f (x9_59.set ((ji75) : Int).toNat (⟨(rd_T32 x9_59 (ji75)).f0, wrap64 (((rd_T32 x9_59 (ji75)).f1) + ((rd_T32 x9_59 x6_4).f1))⟩ : S32)) x6_4 (wrap64 (x6_4 + 1))).bind fun t156 => (some (t156, 0))) else (some (x9_59, 0))) else (none)) else (none))) else (none)) else (none)) = some (r1, r2) := by first | (rw [hji75] at H; exact H) | (simp only [hji75] at H ⊢; exact H)
         have hji75w : (IntKind.i64.wrap (x6_4 - 1)) = ji75 := (i64_w _).trans hji75
         by_cases c76 : 0 ≤ (ji75)
         ·rw [if_pos c76] at H
          have c76b0 : decide (0 ≤ (ji75)) = true := decide_eq_true c76
          clear c76
          by_cases c77 : (ji75) < (x9_59.length : Int)
          ·rw [if_pos c77] at H
           have c77b0 : decide ((ji75) < (x9_59.length : Int)) = true := decide_eq_true c77
           clear c77
           replace H := Option.bind_eq_some_iff.mp H
           obtain ⟨t151, A780, H⟩ := H
           replace H : (if 0 ≤ x6_4 then (if x6_4 < (x9_59.length : Int) then (if t151 = ((rd_T32 x9_59 x6_4).f0) then ((api_Run_43.f (x9_59.set ((ji75) : Int).toNat (⟨(rd_T32 x9_59 (ji75)).f0, wrap64 (((rd_T32 x9_59 (ji75)).f1) + ((rd_T32 x9_59 x6_4).f1))⟩ : S32)) x6_4 (wrap64 (x6_4 + 1))).bind fun t156 => (some (t156, 0))) else (some (x9_59, 0))) else (none)) else (none)) = some (r1, r2) := H
           have A78 := aM A780
           clear A780
           by_cases c79 : 0 ≤ x6_4
           ·rw [if_pos c79] at H
            have c79b0 : decide (0 ≤ x6_4) = true := decide_eq_true c79
            clear c79
            by_cases c80 : x6_4 < (x9_59.length : Int)
            ·rw [if_pos c80] at H
             have c80b0 : decide (x6_4 < (x9_59.length : Int)) = true := decide_eq_true c80
             clear c80
             by_cases c81 : t151 = ((rd_T32 x9_59 x6_4).f0)
             ·rw [if_pos c81] at H
              have c81b0 : (t151 == ((rd_T32 x9_59 x6_4).f0)) = true := beq_iff_eq.mpr c81
              have c81b1 : (t151 != ((rd_T32 x9_59 x6_4).f0)) = false := bne_eq_false_iff_eq.mpr c81
              clear c81
              obtain ⟨y155, hy155⟩ : ∃ y_ : List (S32), y_ = (x9_59.set ((ji75) : Int).toNat (⟨(rd_T32 x9_59 (ji75)).f0, wrap64 (((rd_T32 x9_59 (ji75)).f1) + ((rd_T32 x9_59 x6_4).f1))⟩ : S32)) := ⟨_, rfl⟩
              replace H : ((api_Run_43.f y155 x6_4 (wrap64 (x6_4 + 1))).bind fun t156 => (some (t156, 0))) = some (r1, r2) := by first | (rw [hy155]; with_reducible exact H) | (have H2_ := (Option.bind_some _ _).symm.trans H; rw [hy155]; with_reducible exact H2_) | (have H2_ := (Option.bind_some _ _).symm.trans H; with_reducible exact H2_) | with_reducible exact H | (rw [hy155]; exact H) | exact H
              have Ny155 := aM hy155
              clear hy155
              replace H := Option.bind_eq_some_iff.mp H
              obtain ⟨t156, A830, H⟩ := H
              replace H : (some (t156, 0)) = some (r1, r2) := H
              have A83 := aM A830
              clear A830
              simp only [Option.some.injEq, Prod.mk.injEq] at H
              obtain ⟨rfl, rfl⟩ := H
              try go_wp2_with (first|(with_reducible refine wp_scope_body ?_)|(go_step3))
              have n0_ := aM (rD HO_9.out)
              have n1_ := aM (bD BK126.out)
              have n2_ := aM (wD HB.out)
              clear HO_9
              clear BK126
              clear HB
              have HO_9 := n0_
              have BK126 := n1_
              have HB := n2_
              clear n0_ n1_ n2_
              obtain ⟨Ao85, co85, eo85⟩ := Kd.R_slice HO_9.out
              (first | subst eo85 | (injection eo85 with f1_ f2_ f3_; have f4_ := f1_.symm; have f5_ := f3_.symm; clear f1_ f2_ f3_; subst f4_; subst f5_))
              have p150 : 0 ≤ ((ji75) : Int) := oD (by first | (with_reducible assumption) | assumption)
              have q150 : (ji75) < (x9_59.length : Int) := oD (by first | (with_reducible assumption) | assumption)
              obtain ⟨ad150, e150, hx150_0, hx150_1⟩ := at_T32 (Kd.R_reads' HO_9.out).2.2 (ji75) p150 q150
              cases e150
              replace p150 := eq_true p150
              replace q150 := eq_true q150
              have p152 : 0 ≤ (x6_4 : Int) := oD (by first | (with_reducible assumption) | assumption)
              have q152 : x6_4 < (x9_59.length : Int) := oD (by first | (with_reducible assumption) | assumption)
              obtain ⟨ad152, e152, hx152_0, hx152_1⟩ := at_T32 (Kd.R_reads' HO_9.out).2.2 x6_4 p152 q152
              obtain rfl : ad150 = ad152 := (by injection e152)
              replace p152 := eq_true p152
              replace q152 := eq_true q152
              refine start_ (n := 16) (S := fun w' => w'.cell? (ad150.add (((ji75)).toNat * 2)) = some (.int .i64 ((rd_T32 x9_59 (ji75)).f0)) ∧ w'.cell? ⟨(ad150.add (((ji75)).toNat * 2)).block, (ad150.add (((ji75)).toNat * 2)).off + 1, none⟩ = some (.int .i64 ((rd_T32 x9_59 (ji75)).f1)) ∧ w'.cell? (ad150.add ((x6_4).toNat * 2)) = some (.int .i64 ((rd_T32 x9_59 x6_4).f0)) ∧ w'.cell? ⟨(ad150.add ((x6_4).toNat * 2)).block, (ad150.add ((x6_4).toNat * 2)).off + 1, none⟩ = some (.int .i64 ((rd_T32 x9_59 x6_4).f1))) (ds := []) (msk 0 16) (by kernel_rfl) rfl rfl ⟨hx150_0, hx150_1, hx152_0, hx152_1⟩ (fun hHeld => ?_); refine with_tabW runs_Put.tab16 runs_Put.bits16 (fun HT_ HW_ => ?_)
              generalize wc.drew = w84 at HO_9 BK126 HB hx150_0 hx150_1 hx152_0 hx152_1 hHeld ⊢
              refine pure_ (i := 0) (N := some 81) (v := ?_) (a' := ?_) (msk 1 15) rfl rfl (any_of HT_.out (by kernel_rfl)) (fun _ _ _ h => h) (Or.inl ⟨by rfl, ?_⟩) ?_ ?_
              rotate_left
              ·intro w'
               go_simp
               with_reducible rfl
              rotate_left
              ·simp only [Act.put, lS, lZ, lU, i64_w, i32_w]
               rfl
              refine pure_ (i := 1) (N := some 82) (v := ?_) (a' := ?_) (msk 2 14) rfl rfl (any_of HT_.out (by kernel_rfl)) (fun _ _ _ h => h) (Or.inl ⟨by rfl, ?_⟩) ?_ ?_
              rotate_left
              ·intro w'
               go_simp
               with_reducible rfl
              rotate_left
              ·simp only [Act.put, lS, lZ, lU, i64_w, i32_w]
               rfl
              refine pure_ (i := 2) (N := some 83) (v := ?_) (a' := ?_) (msk 3 13) rfl rfl (any_of HT_.out (by kernel_rfl)) (fun _ _ _ h => h) (Or.inl ⟨by rfl, ?_⟩) ?_ ?_
              rotate_left
              ·intro w'
               go_simp
               with_reducible rfl
              rotate_left
              ·simp only [Act.put, lS, lZ, lU, i64_w, i32_w]
               rfl
              refine pure_ (i := 3) (N := some 84) (v := ?_) (a' := ?_) (msk 4 12) rfl rfl (any_of HT_.out (by kernel_rfl)) (fun _ _ _ h => h) (Or.inl ⟨by rfl, ?_⟩) ?_ ?_
              rotate_left
              ·intro w'
               go_simp
               with_reducible rfl
              rotate_left
              ·simp only [Act.put, lS, lZ, lU, i64_w, i32_w]
               rfl
              refine pure_ (i := 4) (N := some 85) (v := ?_) (a' := ?_) (msk 5 11) rfl rfl (any_of HT_.out (by kernel_rfl)) (fun _ _ _ h => h) (Or.inl ⟨by rfl, ?_⟩) ?_ ?_
              rotate_left
              ·intro w'
               go_simp
               with_reducible rfl
              rotate_left
              ·simp only [Act.put, lS, lZ, lU, i64_w, i32_w]
               rfl
              refine pure_ (i := 5) (N := some 86) (v := ?_) (a' := ?_) (msk 6 10) rfl rfl (any_of HT_.out (by kernel_rfl)) (fun _ _ _ h => h) (Or.inl ⟨by rfl, ?_⟩) ?_ ?_
              rotate_left
              ·intro w'
               go_simp
               with_reducible rfl
              rotate_left
              ·simp only [Act.put, lS, lZ, lU, i64_w, i32_w]
               rfl
              refine pure_ (i := 6) (N := some 87) (v := ?_) (a' := ?_) (msk 7 9) rfl rfl (any_of HT_.out (by kernel_rfl)) (fun _ _ _ h => h) (Or.inl ⟨by rfl, ?_⟩) ?_ ?_
              rotate_left
              ·intro w'
               go_simp
               with_reducible rfl
              rotate_left
              ·simp only [Act.put, lS, lZ, lU, i64_w, i32_w]
               rfl
              refine pure_ (i := 9) (N := some 90) (v := ?_) (a' := ?_) #[tt,tt,tt,tt,tt,tt,tt,ff,ff,tt,ff,ff,ff,ff,ff,ff] rfl rfl (any_of HT_.out (by kernel_rfl)) (fun _ _ _ h => h) (Or.inl ⟨by rfl, ?_⟩) ?_ ?_
              rotate_left
              ·intro w'
               go_simp
               with_reducible rfl
              rotate_left
              ·simp only [Act.put, lS, lZ, lU, i64_w, i32_w]
               rfl
              refine pure_ (i := 10) (N := some 91) (v := ?_) (a' := ?_) #[tt,tt,tt,tt,tt,tt,tt,ff,ff,tt,tt,ff,ff,ff,ff,ff] rfl rfl (any_of HT_.out (by kernel_rfl)) (fun _ _ _ h => h) (Or.inl ⟨by rfl, ?_⟩) ?_ ?_
              rotate_left
              ·intro w'
               go_simp
               with_reducible rfl
              rotate_left
              ·simp only [Act.put, lS, lZ, lU, i64_w, i32_w]
               rfl
              refine pure_ (i := 11) (N := some 92) (v := ?_) (a' := ?_) #[tt,tt,tt,tt,tt,tt,tt,ff,ff,tt,tt,tt,ff,ff,ff,ff] rfl rfl (any_of HT_.out (by kernel_rfl)) (fun _ _ _ h => h) (Or.inl ⟨by rfl, ?_⟩) ?_ ?_
              rotate_left
              ·intro w'
               go_simp
               with_reducible rfl
              rotate_left
              ·simp only [Act.put, lS, lZ, lU, i64_w, i32_w]
               rfl
              refine pure_ (i := 12) (N := some 93) (v := ?_) (a' := ?_) #[tt,tt,tt,tt,tt,tt,tt,ff,ff,tt,tt,tt,tt,ff,ff,ff] rfl rfl (any_of HT_.out (by kernel_rfl)) (fun _ _ _ h => h) (Or.inl ⟨by rfl, ?_⟩) ?_ ?_
              rotate_left
              ·intro w'
               go_simp
               with_reducible rfl
              rotate_left
              ·simp only [Act.put, lS, lZ, lU, i64_w, i32_w]
               rfl
              refine take_ (i := 7) (N := some 88) (v := ?_) (a' := ?_) #[tt,tt,tt,tt,tt,tt,tt,tt,ff,tt,tt,tt,tt,ff,ff,ff] rfl rfl (take_ofW HT_.out HW_.out (by kernel_rfl)) (fun _ _ _ h => h) (Or.inl ⟨by rfl, ?_⟩) hHeld ?_ ?_
              rotate_left
              ·rintro w' ⟨s0, s1, s2, s3⟩
               go_simp
               with_reducible rfl
              rotate_left
              ·simp only [Act.put, lS, lZ, lU, i64_w, i32_w]
               rfl
              refine take_ (i := 13) (N := some 94) (v := ?_) (a' := ?_) #[tt,tt,tt,tt,tt,tt,tt,tt,ff,tt,tt,tt,tt,tt,ff,ff] rfl rfl (take_ofW HT_.out HW_.out (by kernel_rfl)) (fun _ _ _ h => h) (Or.inl ⟨by rfl, ?_⟩) hHeld ?_ ?_
              rotate_left
              ·rintro w' ⟨s0, s1, s2, s3⟩
               go_simp
               with_reducible rfl
              rotate_left
              ·simp only [Act.put, lS, lZ, lU, i64_w, i32_w]
               rfl
              refine one_ (i := 8) (N := some 89) (msk 14 2) rfl rfl (one_of HT_.out (by kernel_rfl)) (by decide) (fun K hK => ?_)
              refine goes_ Try.func45 (by kernel_rfl) rfl #[.agg #[.int .i64 ((rd_T32 x9_59 (ji75)).f0), .int .i64 ((rd_T32 x9_59 (ji75)).f1)]] (by rfl) rfl rfl (by (try simp only [lM, lC, lN]); first | done | (simp only [hji75]; rfl) | rfl | (simp only [lD, lT]; rfl)) ?_
              with_reducible refine (runs_end.calls ((rd_T32 x9_59 (ji75)).f0) ((rd_T32 x9_59 (ji75)).f1) t151 _ A78.out).mono ?_
              rintro e w86 ⟨rfl, hb⟩
              have HS0_ := (hb.cell (wL _ _ (hHeld.1))).trans (hHeld.1)
              have HS1_ := (hb.cell (wL _ _ (hHeld.2.1))).trans (hHeld.2.1)
              have HS2_ := (hb.cell (wL _ _ (hHeld.2.2.1))).trans (hHeld.2.2.1)
              have HS3_ := (hb.cell (wL _ _ (hHeld.2.2.2))).trans (hHeld.2.2.2)
              refine ⟨_, rfl, ?_⟩
              have n0_ := aM (rB (by (with_reducible repeat (first | apply rA | apply rN | apply rD)); exact HO_9.out) hb)
              have n1_ := aM (bB (g := gb126) (o := .cells #[.int .i64 a1_0, .int .i64 x127001_59] 32 (0, 0)) (by (with_reducible repeat (first | refine bN ?_ _ | refine bD ?_ | refine bA ?_ _)); exact BK126.out) hb)
              have n2_ := aM (wT (by repeat (first | (with_reducible first | exact HB.out | apply wA | apply wN_ | apply wD | refine wS ?_ GE126.out) | exact HB.out)) hb)
              clear HO_9
              clear BK126
              clear HB
              have HO_9 := n0_
              have BK126 := n1_
              have HB := n2_
              clear n0_ n1_ n2_
              (try clear hb)
              (try clear hb2)
              (try clear hk)
              (try clear hi)
              refine hK.out _ _ ⟨HS0_, HS1_, HS2_, HS3_⟩ (fun hHeld => ?_)
              clear hK K
              refine norm_ (a' := ?_) ?_ ?_
              rotate_left
              ·show Act.put _ (some 89) _ = _
               simp only [Act.put, lS, lZ, lU, i64_w, i32_w]
               rfl
              refine pure_ (i := 14) (N := some 95) (v := ?_) (a' := ?_) (msk 15 1) rfl rfl (any_of HT_.out (by kernel_rfl)) (fun _ _ _ h => h) (Or.inl ⟨by rfl, ?_⟩) ?_ ?_
              rotate_left
              ·intro w'
               go_simp
               with_reducible rfl
              rotate_left
              ·simp only [Act.put, lS, lZ, lU, i64_w, i32_w]
               rfl
              refine pure_ (i := 15) (N := some 96) (v := ?_) (a' := ?_) (msk 16 0) rfl rfl (any_of HT_.out (by kernel_rfl)) (fun _ _ _ h => h) (Or.inl ⟨by rfl, ?_⟩) ?_ ?_
              rotate_left
              ·intro w'
               go_simp
               with_reducible rfl
              rotate_left
              ·simp only [Act.put, lS, lZ, lU, i64_w, i32_w]
               rfl
              refine done_ (done_of HT_.out (by kernel_rfl)) ?_
              try go_wp2_with (first|(with_reducible refine wp_scope_body ?_)|(go_step3))
              have n0_ := aM (rD HO_9.out)
              have n1_ := aM (bD BK126.out)
              have n2_ := aM (wD HB.out)
              clear HO_9
              clear BK126
              clear HB
              have HO_9 := n0_
              have BK126 := n1_
              have HB := n2_
              clear n0_ n1_ n2_
              have p153 : 0 ≤ ((ji75) : Int) := oD (by first | (with_reducible assumption) | assumption)
              have q153 : (ji75) < (x9_59.length : Int) := oD (by first | (with_reducible assumption) | assumption)
              obtain ⟨ad153, e153, hx153_0, hx153_1⟩ := at_T32 (Kd.R_reads' HO_9.out).2.2 (ji75) p153 q153
              obtain rfl : ad150 = ad153 := (by injection e153)
              replace p153 := eq_true p153
              replace q153 := eq_true q153
              have p154 : 0 ≤ (x6_4 : Int) := oD (by first | (with_reducible assumption) | assumption)
              have q154 : x6_4 < (x9_59.length : Int) := oD (by first | (with_reducible assumption) | assumption)
              obtain ⟨ad154, e154, hx154_0, hx154_1⟩ := at_T32 (Kd.R_reads' HO_9.out).2.2 x6_4 p154 q154
              obtain rfl : ad150 = ad154 := (by injection e154)
              replace p154 := eq_true p154
              replace q154 := eq_true q154
              have p82 : 0 ≤ ((ji75) : Int) := oD (by first | (with_reducible assumption) | assumption)
              have q82 : ((ji75) : Int) < ((x9_59.length : Int) : Int) := oD (by first | (with_reducible assumption) | assumption)
              obtain ⟨go82, co82, eo82, gb82, gl82, cl82, HG82⟩ := Kd.R_form HO_9.out (by omega)
              (first | cases eo82 | (injection eo82 with ea_ en_ ec_; (first | subst ea_ | (injection ea_ with ea_; subst ea_)); subst ec_; clear en_))
              have GB82 := aM gb82
              have GG82 := aM HG82
              clear gb82 gl82 HG82
              (first | simp only [add_plain] at hx150_0 | skip)
              (first | simp only [add_plain] at hx150_1 | skip)
              (first | simp only [add_plain] at hx152_0 | skip)
              (first | simp only [add_plain] at hx152_1 | skip)
              (first | simp only [add_plain] at hx153_0 | skip)
              (first | simp only [add_plain] at hx153_1 | skip)
              (first | simp only [add_plain] at hx154_0 | skip)
              (first | simp only [add_plain] at hx154_1 | skip)
              obtain ⟨ce82, hcl82, hM82, hcc82, hfr82⟩ := Kd.R_elem HO_9.out z32 ((ji75) : Int) p82 q82
              obtain rfl := k32_openM hM82
              have hx82_0 : World.cell? _ ⟨go82, ((ji75) : Int).toNat * 2, none⟩ = some (.int .i64 ((rd_T32 x9_59 (ji75)).f0)) := hcc82 0 _ rfl
              have hx82_1 : World.cell? _ ⟨go82, ((ji75) : Int).toNat * 2 + 1, none⟩ = some (.int .i64 ((rd_T32 x9_59 (ji75)).f1)) := hcc82 1 _ rfl
              have hf82_0 : World.frozen? _ ⟨go82, ((ji75) : Int).toNat * 2, none⟩ = false := hfr82 0
              have hf82_1 : World.frozen? _ ⟨go82, ((ji75) : Int).toNat * 2 + 1, none⟩ = false := hfr82 1
              clear hcl82 hcc82 hfr82 hM82
              replace p82 := eq_true p82
              replace q82 := eq_true q82
              obtain ⟨ce88, hcl88, hM88, hcc88, hfr88⟩ := Kd.R_elem HO_9.out z32 ((ji75) : Int) (oD (by first | (with_reducible assumption) | assumption)) (by have h_ : ((ji75) : Int) < ((x9_59.length : Int) : Int) := oD (by first | (with_reducible assumption) | assumption); first | exact h_ | (have e_ := (Kd.R_reads' HO_9.out).1; omega) | simpa using h_)
              obtain rfl := k32_openM hM88
              have HP88 := (Kd.R_seg HO_9.out ((ji75) : Int) (oD (by first | (with_reducible assumption) | assumption)) (by have h_ : ((ji75) : Int) < ((x9_59.length : Int) : Int) := oD (by first | (with_reducible assumption) | assumption); first | exact h_ | (have e_ := (Kd.R_reads' HO_9.out).1; omega) | simpa using h_) (seg := [.int .i64 (wrap64 (((rd_T32 x9_59 (ji75)).f1) + ((rd_T32 x9_59 x6_4).f1)))]) (j := 1) hcl88 hcc88 (show 2 ≤ 2 from by decide) (x' := (⟨(rd_T32 x9_59 (ji75)).f0, wrap64 (((rd_T32 x9_59 (ji75)).f1) + ((rd_T32 x9_59 x6_4).f1))⟩ : S32)) (k32_mkM _ _ _ (⟨(rd_T32 x9_59 (ji75)).f0, wrap64 (((rd_T32 x9_59 (ji75)).f1) + ((rd_T32 x9_59 x6_4).f1))⟩ : S32) ) (fun _ hk => hk)).1
              rw [← Ny155.out] at HP88
              have HQ88 := aM HP88
              clear hcl88 hcc88 hfr88 hM88 HP88
              refine start_ (n := 15) (S := fun w' => w'.cell? ⟨go82, (((ji75)).toNat * 2), none⟩ = some (.int .i64 ((rd_T32 x9_59 (ji75)).f0)) ∧ w'.cell? ⟨go82, (((ji75)).toNat * 2) + 1, none⟩ = some (.int .i64 ((rd_T32 x9_59 (ji75)).f1)) ∧ w'.cell? ⟨go82, ((x6_4).toNat * 2), none⟩ = some (.int .i64 ((rd_T32 x9_59 x6_4).f0)) ∧ w'.cell? ⟨go82, ((x6_4).toNat * 2) + 1, none⟩ = some (.int .i64 ((rd_T32 x9_59 x6_4).f1))) (ds := [14]) #[false, false, false, false, false, false, false, false, false, false, false, false, false, false, false] (by kernel_rfl) rfl rfl ⟨hx153_0, hx153_1, hx154_0, hx154_1⟩ (fun hHeld => ?_); refine with_tabW runs_Put.tab17 runs_Put.bits17 (fun HT_ HW_ => ?_)
              generalize w86.drew = w87 at HO_9 BK126 HB GG82 HQ88 hf82_0 hf82_1 hx150_0 hx150_1 hx152_0 hx152_1 hx153_0 hx153_1 hx154_0 hx154_1 hx82_0 hx82_1 hHeld ⊢
              refine pure_ (i := 0) (N := some 97) (v := ?_) (a' := ?_) #[true, false, false, false, false, false, false, false, false, false, false, false, false, false, false] rfl rfl (any_of HT_.out (by kernel_rfl)) (fun _ _ _ h => h) (Or.inl ⟨by rfl, ?_⟩) ?_ ?_
              rotate_left
              ·intro w'
               go_simp
               with_reducible rfl
              rotate_left
              ·simp only [Act.put, lS, lZ, lU, i64_w, i32_w]
               rfl
              refine pure_ (i := 1) (N := some 98) (v := ?_) (a' := ?_) #[true, true, false, false, false, false, false, false, false, false, false, false, false, false, false] rfl rfl (any_of HT_.out (by kernel_rfl)) (fun _ _ _ h => h) (Or.inl ⟨by rfl, ?_⟩) ?_ ?_
              rotate_left
              ·intro w'
               go_simp
               with_reducible rfl
              rotate_left
              ·simp only [Act.put, lS, lZ, lU, i64_w, i32_w]
               rfl
              refine pure_ (i := 2) (N := some 99) (v := ?_) (a' := ?_) #[true, true, true, false, false, false, false, false, false, false, false, false, false, false, false] rfl rfl (any_of HT_.out (by kernel_rfl)) (fun _ _ _ h => h) (Or.inl ⟨by rfl, ?_⟩) ?_ ?_
              rotate_left
              ·intro w'
               go_simp
               with_reducible rfl
              rotate_left
              ·simp only [Act.put, lS, lZ, lU, i64_w, i32_w]
               rfl
              refine pure_ (i := 3) (N := some 100) (v := ?_) (a' := ?_) #[true, true, true, true, false, false, false, false, false, false, false, false, false, false, false] rfl rfl (any_of HT_.out (by kernel_rfl)) (fun _ _ _ h => h) (Or.inl ⟨by rfl, ?_⟩) ?_ ?_
              rotate_left
              ·intro w'
               go_simp
               with_reducible rfl
              rotate_left
              ·simp only [Act.put, lS, lZ, lU, i64_w, i32_w]
               rfl
              refine pure_ (i := 4) (N := some 101) (v := ?_) (a' := ?_) #[true, true, true, true, true, false, false, false, false, false, false, false, false, false, false] rfl rfl (any_of HT_.out (by kernel_rfl)) (fun _ _ _ h => h) (Or.inl ⟨by rfl, ?_⟩) ?_ ?_
              rotate_left
              ·intro w'
               go_simp
               with_reducible rfl
              rotate_left
              ·simp only [Act.put, lS, lZ, lU, i64_w, i32_w]
               rfl
              refine pure_ (i := 6) (N := some 103) (v := ?_) (a' := ?_) #[true, true, true, true, true, false, true, false, false, false, false, false, false, false, false] rfl rfl (any_of HT_.out (by kernel_rfl)) (fun _ _ _ h => h) (Or.inl ⟨by rfl, ?_⟩) ?_ ?_
              rotate_left
              ·intro w'
               go_simp
               with_reducible rfl
              rotate_left
              ·simp only [Act.put, lS, lZ, lU, i64_w, i32_w]
               rfl
              refine pure_ (i := 7) (N := some 104) (v := ?_) (a' := ?_) #[true, true, true, true, true, false, true, true, false, false, false, false, false, false, false] rfl rfl (any_of HT_.out (by kernel_rfl)) (fun _ _ _ h => h) (Or.inl ⟨by rfl, ?_⟩) ?_ ?_
              rotate_left
              ·intro w'
               go_simp
               with_reducible rfl
              rotate_left
              ·simp only [Act.put, lS, lZ, lU, i64_w, i32_w]
               rfl
              refine pure_ (i := 8) (N := some 105) (v := ?_) (a' := ?_) #[true, true, true, true, true, false, true, true, true, false, false, false, false, false, false] rfl rfl (any_of HT_.out (by kernel_rfl)) (fun _ _ _ h => h) (Or.inl ⟨by rfl, ?_⟩) ?_ ?_
              rotate_left
              ·intro w'
               go_simp
               with_reducible rfl
              rotate_left
              ·simp only [Act.put, lS, lZ, lU, i64_w, i32_w]
               rfl
              refine pure_ (i := 9) (N := some 106) (v := ?_) (a' := ?_) #[true, true, true, true, true, false, true, true, true, true, false, false, false, false, false] rfl rfl (any_of HT_.out (by kernel_rfl)) (fun _ _ _ h => h) (Or.inl ⟨by rfl, ?_⟩) ?_ ?_
              rotate_left
              ·intro w'
               go_simp
               with_reducible rfl
              rotate_left
              ·simp only [Act.put, lS, lZ, lU, i64_w, i32_w]
               rfl
              refine take_ (i := 5) (N := some 102) (v := ?_) (a' := ?_) #[true, true, true, true, true, true, true, true, true, true, false, false, false, false, false] rfl rfl (take_ofW HT_.out HW_.out (by kernel_rfl)) (fun _ _ _ h => h) (Or.inl ⟨by rfl, ?_⟩) hHeld ?_ ?_
              rotate_left
              ·rintro w' ⟨s0, s1, s2, s3⟩
               go_simp
               with_reducible rfl
              rotate_left
              ·simp only [Act.put, lS, lZ, lU, i64_w, i32_w]
               rfl
              refine take_ (i := 10) (N := some 107) (v := ?_) (a' := ?_) #[true, true, true, true, true, true, true, true, true, true, true, false, false, false, false] rfl rfl (take_ofW HT_.out HW_.out (by kernel_rfl)) (fun _ _ _ h => h) (Or.inl ⟨by rfl, ?_⟩) hHeld ?_ ?_
              rotate_left
              ·rintro w' ⟨s0, s1, s2, s3⟩
               go_simp
               with_reducible rfl
              rotate_left
              ·simp only [Act.put, lS, lZ, lU, i64_w, i32_w]
               rfl
              refine pure_ (i := 11) (N := some 108) (v := ?_) (a' := ?_) #[true, true, true, true, true, true, true, true, true, true, true, true, false, false, false] rfl rfl (any_of HT_.out (by kernel_rfl)) (fun _ _ _ h => h) (Or.inl ⟨by rfl, ?_⟩) ?_ ?_
              rotate_left
              ·intro w'
               go_simp
               with_reducible rfl
              rotate_left
              ·simp only [Act.put, lS, lZ, lU, i64_w, i32_w]
               rfl
              refine pure_ (i := 12) (N := some 109) (v := ?_) (a' := ?_) #[true, true, true, true, true, true, true, true, true, true, true, true, true, false, false] rfl rfl (any_of HT_.out (by kernel_rfl)) (fun _ _ _ h => h) (Or.inl ⟨by rfl, ?_⟩) ?_ ?_
              rotate_left
              ·intro w'
               go_simp
               with_reducible rfl
              rotate_left
              ·simp only [Act.put, lS, lZ, lU, i64_w, i32_w]
               rfl
              refine pure_ (i := 13) (N := some 110) (v := ?_) (a' := ?_) #[true, true, true, true, true, true, true, true, true, true, true, true, true, true, false] rfl rfl (any_of HT_.out (by kernel_rfl)) (fun _ _ _ h => h) (Or.inl ⟨by rfl, ?_⟩) ?_ ?_
              rotate_left
              ·intro w'
               go_simp
               with_reducible rfl
              rotate_left
              ·simp only [Act.put, lS, lZ, lU, i64_w, i32_w]
               rfl
              refine last_ (i := 14) (N := none) #[true, true, true, true, true, true, true, true, true, true, true, true, true, true, true] rfl rfl (one_of HT_.out (by kernel_rfl)) (by decide) (fun K hK => ?_)
              refine skip_ (w1 := ?_) (by rfl) rfl ?_ ?_
              rotate_left
              ·go_simp
               rfl
              refine hK.out _ _ ?_
              clear hK K
              refine done_ (done_of HT_.out (by kernel_rfl)) ?_
              have n0_ : Aside0 (Kd.R k32 32 (w87.setCell ⟨go82, ((ji75) : Int).toNat * 2 + 1, none⟩ (.int .i64 (wrap64 (((rd_T32 x9_59 (ji75)).f1) + ((rd_T32 x9_59 x6_4).f1))))) w.heap.size (fun k_ => k_ ≠ gb126) (.slice (some ⟨go82, 0, none⟩) x9_59.length co85) y155) := ⟨by (with_reducible repeat (first | apply rA | apply rN | apply rD)); exact HQ88.out⟩
              have n1_ : Aside0 ((w87.setCell ⟨go82, ((ji75) : Int).toNat * 2 + 1, none⟩ (.int .i64 (wrap64 (((rd_T32 x9_59 (ji75)).f1) + ((rd_T32 x9_59 x6_4).f1))))).heap[gb126]? = some (.cells #[.int .i64 a1_0, .int .i64 x127001_59] 32 (0, 0))) := ⟨by (with_reducible repeat (first | refine bN ?_ _ | refine bD ?_ | refine bA ?_ _)); refine bR ?_ (by have h_ := Kd.R_away HO_9.out (fun _ hk => hk); intro e_; exact h_ (by rw [e_]; rfl)) _; (with_reducible repeat (first | refine bN ?_ _ | refine bD ?_ | refine bA ?_ _)); exact BK126.out⟩
              have n2_ : Aside0 (Below w.heap.size w (w87.setCell ⟨go82, ((ji75) : Int).toNat * 2 + 1, none⟩ (.int .i64 (wrap64 (((rd_T32 x9_59 (ji75)).f1) + ((rd_T32 x9_59 x6_4).f1)))))) := ⟨by repeat (first | (with_reducible first | exact HB.out | apply wA | apply wN_ | apply wD | refine wS ?_ GB82.out | refine wS ?_ GE126.out) | exact HB.out)⟩
              (try clear HO_9)
              (try clear BK126)
              (try clear HB)
              generalize (w87.setCell ⟨go82, ((ji75) : Int).toNat * 2 + 1, none⟩ (.int .i64 (wrap64 (((rd_T32 x9_59 (ji75)).f1) + ((rd_T32 x9_59 x6_4).f1))))) = w89 at n0_ n1_ n2_ ⊢
              have HO_9 := n0_
              have BK126 := n1_
              have HB := n2_
              clear n0_ n1_ n2_
              try go_wp2_with (first|(with_reducible refine wp_scope_body ?_)|(go_step3)|((with_reducible refine gate_callee (f:=43) rfl ?_);refine goesL_ (some 115) rfl rfl Try.func43 (by kernel_rfl) rfl #[.slice (some ⟨go82,0,none⟩) x9_59.length co85,.int .i64 x6_4,.int .i64 (wrap64 (x6_4 + 1))] rfl (by (try simp only [lM,lC,lN]);first|done|rfl|(simp only [lD,lT];rfl)) ?_;(with_reducible refine (api_Run_43.calls (fun k_ => some k_ = (.slice (some ⟨go82,0,none⟩) x9_59.length co85 : Value).ownBlock) (.slice (some ⟨go82,0,none⟩) x9_59.length co85) y155 x6_4 (wrap64 (x6_4 + 1)) t156 w _ ?side1 ?side2 A83.out).mono ?_);(case side1 => repeat (first|(with_reducible first|exact HB.out|apply wA|apply wN_|apply wD|refine wS ?_ GE126.out)|exact HB.out));(case side2 => exact Kd.R_tight rfl HO_9.out);rintro e w90 ⟨v157,rfl,ho0,hb,hkp⟩;refine ⟨_,rfl,?_⟩;have n0_:=aM (blk_kept (by (with_reducible repeat (first|refine bN ?_ _|refine bD ?_|refine bA ?_ _));exact BK126.out) hkp (fun hs_ => (fun e_ => (Kd.R_away HO_9.out (fun _ hk => hk)) e_) hs_));have n1_:=aM (rM (ok':=fun k_ => k_ ≠ gb126) ho0 (fun k_ hk_ => Or.elim hk_ (fun hs_ => fun e_ => (Kd.R_away HO_9.out (fun _ hk => hk)) (by rw [← e_];exact hs_)) (fun hn_ => (Kd.freshB (g:=gb126) (o:=.cells #[.int .i64 a1_0,.int .i64 x127001_59] 32 (0,0)) (by (with_reducible repeat (first|refine bN ?_ _|refine bD ?_|refine bA ?_ _));exact BK126.out) k_ hn_))));have n2_:=aM (hb);clear BK126;clear HB;clear HO_9;have BK126:=n0_;have HO158:=n1_;have HB:=n2_;clear n0_ n1_ n2_;(try clear hb);(try clear hkp);(try clear ho0)))
              go_ret2
              exact ⟨_, by first | rfl | (simp [errW_none, errW_some] <;> rfl) | (simp only [← hji75]; first | rfl | (simp [errW_none, errW_some] <;> rfl)) | (simp [*, errW_none, errW_some] <;> rfl), by (with_reducible repeat (first | apply rA | apply rN | apply rD)); exact rM HO158.out (fun _ hk => trivial), by repeat (first | (with_reducible first | exact HB.out | apply wA | apply wN_ | apply wD | refine wS ?_ GE126.out) | exact HB.out)⟩
             ·rw [if_neg c81] at H
              have c81b0 : (t151 == ((rd_T32 x9_59 x6_4).f0)) = false := beq_eq_false_iff_ne.mpr c81
              have c81b1 : (t151 != ((rd_T32 x9_59 x6_4).f0)) = true := bne_iff_ne.mpr c81
              simp only [Option.some.injEq, Prod.mk.injEq] at H
              obtain ⟨rfl, rfl⟩ := H
              try go_wp2_with (first|(with_reducible refine wp_scope_body ?_)|(go_step3))
              have n0_ := aM (rD HO_9.out)
              have n1_ := aM (bD BK126.out)
              have n2_ := aM (wD HB.out)
              clear HO_9
              clear BK126
              clear HB
              have HO_9 := n0_
              have BK126 := n1_
              have HB := n2_
              clear n0_ n1_ n2_
              obtain ⟨Ao92, co92, eo92⟩ := Kd.R_slice HO_9.out
              (first | subst eo92 | (injection eo92 with f1_ f2_ f3_; have f4_ := f1_.symm; have f5_ := f3_.symm; clear f1_ f2_ f3_; subst f4_; subst f5_))
              have p150 : 0 ≤ ((ji75) : Int) := oD (by first | (with_reducible assumption) | assumption)
              have q150 : (ji75) < (x9_59.length : Int) := oD (by first | (with_reducible assumption) | assumption)
              obtain ⟨ad150, e150, hx150_0, hx150_1⟩ := at_T32 (Kd.R_reads' HO_9.out).2.2 (ji75) p150 q150
              cases e150
              replace p150 := eq_true p150
              replace q150 := eq_true q150
              have p152 : 0 ≤ (x6_4 : Int) := oD (by first | (with_reducible assumption) | assumption)
              have q152 : x6_4 < (x9_59.length : Int) := oD (by first | (with_reducible assumption) | assumption)
              obtain ⟨ad152, e152, hx152_0, hx152_1⟩ := at_T32 (Kd.R_reads' HO_9.out).2.2 x6_4 p152 q152
              obtain rfl : ad150 = ad152 := (by injection e152)
              replace p152 := eq_true p152
              replace q152 := eq_true q152
              refine start_ (n := 16) (S := fun w' => w'.cell? (ad150.add (((ji75)).toNat * 2)) = some (.int .i64 ((rd_T32 x9_59 (ji75)).f0)) ∧ w'.cell? ⟨(ad150.add (((ji75)).toNat * 2)).block, (ad150.add (((ji75)).toNat * 2)).off + 1, none⟩ = some (.int .i64 ((rd_T32 x9_59 (ji75)).f1)) ∧ w'.cell? (ad150.add ((x6_4).toNat * 2)) = some (.int .i64 ((rd_T32 x9_59 x6_4).f0)) ∧ w'.cell? ⟨(ad150.add ((x6_4).toNat * 2)).block, (ad150.add ((x6_4).toNat * 2)).off + 1, none⟩ = some (.int .i64 ((rd_T32 x9_59 x6_4).f1))) (ds := []) (msk 0 16) (by kernel_rfl) rfl rfl ⟨hx150_0, hx150_1, hx152_0, hx152_1⟩ (fun hHeld => ?_); refine with_tabW runs_Put.tab16 runs_Put.bits16 (fun HT_ HW_ => ?_)
              generalize wc.drew = w91 at HO_9 BK126 HB hx150_0 hx150_1 hx152_0 hx152_1 hHeld ⊢
              refine pure_ (i := 0) (N := some 81) (v := ?_) (a' := ?_) (msk 1 15) rfl rfl (any_of HT_.out (by kernel_rfl)) (fun _ _ _ h => h) (Or.inl ⟨by rfl, ?_⟩) ?_ ?_
              rotate_left
              ·intro w'
               go_simp
               with_reducible rfl
              rotate_left
              ·simp only [Act.put, lS, lZ, lU, i64_w, i32_w]
               rfl
              refine pure_ (i := 1) (N := some 82) (v := ?_) (a' := ?_) (msk 2 14) rfl rfl (any_of HT_.out (by kernel_rfl)) (fun _ _ _ h => h) (Or.inl ⟨by rfl, ?_⟩) ?_ ?_
              rotate_left
              ·intro w'
               go_simp
               with_reducible rfl
              rotate_left
              ·simp only [Act.put, lS, lZ, lU, i64_w, i32_w]
               rfl
              refine pure_ (i := 2) (N := some 83) (v := ?_) (a' := ?_) (msk 3 13) rfl rfl (any_of HT_.out (by kernel_rfl)) (fun _ _ _ h => h) (Or.inl ⟨by rfl, ?_⟩) ?_ ?_
              rotate_left
              ·intro w'
               go_simp
               with_reducible rfl
              rotate_left
              ·simp only [Act.put, lS, lZ, lU, i64_w, i32_w]
               rfl
              refine pure_ (i := 3) (N := some 84) (v := ?_) (a' := ?_) (msk 4 12) rfl rfl (any_of HT_.out (by kernel_rfl)) (fun _ _ _ h => h) (Or.inl ⟨by rfl, ?_⟩) ?_ ?_
              rotate_left
              ·intro w'
               go_simp
               with_reducible rfl
              rotate_left
              ·simp only [Act.put, lS, lZ, lU, i64_w, i32_w]
               rfl
              refine pure_ (i := 4) (N := some 85) (v := ?_) (a' := ?_) (msk 5 11) rfl rfl (any_of HT_.out (by kernel_rfl)) (fun _ _ _ h => h) (Or.inl ⟨by rfl, ?_⟩) ?_ ?_
              rotate_left
              ·intro w'
               go_simp
               with_reducible rfl
              rotate_left
              ·simp only [Act.put, lS, lZ, lU, i64_w, i32_w]
               rfl
              refine pure_ (i := 5) (N := some 86) (v := ?_) (a' := ?_) (msk 6 10) rfl rfl (any_of HT_.out (by kernel_rfl)) (fun _ _ _ h => h) (Or.inl ⟨by rfl, ?_⟩) ?_ ?_
              rotate_left
              ·intro w'
               go_simp
               with_reducible rfl
              rotate_left
              ·simp only [Act.put, lS, lZ, lU, i64_w, i32_w]
               rfl
              refine pure_ (i := 6) (N := some 87) (v := ?_) (a' := ?_) (msk 7 9) rfl rfl (any_of HT_.out (by kernel_rfl)) (fun _ _ _ h => h) (Or.inl ⟨by rfl, ?_⟩) ?_ ?_
              rotate_left
              ·intro w'
               go_simp
               with_reducible rfl
              rotate_left
              ·simp only [Act.put, lS, lZ, lU, i64_w, i32_w]
               rfl
              refine pure_ (i := 9) (N := some 90) (v := ?_) (a' := ?_) #[tt,tt,tt,tt,tt,tt,tt,ff,ff,tt,ff,ff,ff,ff,ff,ff] rfl rfl (any_of HT_.out (by kernel_rfl)) (fun _ _ _ h => h) (Or.inl ⟨by rfl, ?_⟩) ?_ ?_
              rotate_left
              ·intro w'
               go_simp
               with_reducible rfl
              rotate_left
              ·simp only [Act.put, lS, lZ, lU, i64_w, i32_w]
               rfl
              refine pure_ (i := 10) (N := some 91) (v := ?_) (a' := ?_) #[tt,tt,tt,tt,tt,tt,tt,ff,ff,tt,tt,ff,ff,ff,ff,ff] rfl rfl (any_of HT_.out (by kernel_rfl)) (fun _ _ _ h => h) (Or.inl ⟨by rfl, ?_⟩) ?_ ?_
              rotate_left
              ·intro w'
               go_simp
               with_reducible rfl
              rotate_left
              ·simp only [Act.put, lS, lZ, lU, i64_w, i32_w]
               rfl
              refine pure_ (i := 11) (N := some 92) (v := ?_) (a' := ?_) #[tt,tt,tt,tt,tt,tt,tt,ff,ff,tt,tt,tt,ff,ff,ff,ff] rfl rfl (any_of HT_.out (by kernel_rfl)) (fun _ _ _ h => h) (Or.inl ⟨by rfl, ?_⟩) ?_ ?_
              rotate_left
              ·intro w'
               go_simp
               with_reducible rfl
              rotate_left
              ·simp only [Act.put, lS, lZ, lU, i64_w, i32_w]
               rfl
              refine pure_ (i := 12) (N := some 93) (v := ?_) (a' := ?_) #[tt,tt,tt,tt,tt,tt,tt,ff,ff,tt,tt,tt,tt,ff,ff,ff] rfl rfl (any_of HT_.out (by kernel_rfl)) (fun _ _ _ h => h) (Or.inl ⟨by rfl, ?_⟩) ?_ ?_
              rotate_left
              ·intro w'
               go_simp
               with_reducible rfl
              rotate_left
              ·simp only [Act.put, lS, lZ, lU, i64_w, i32_w]
               rfl
              refine take_ (i := 7) (N := some 88) (v := ?_) (a' := ?_) #[tt,tt,tt,tt,tt,tt,tt,tt,ff,tt,tt,tt,tt,ff,ff,ff] rfl rfl (take_ofW HT_.out HW_.out (by kernel_rfl)) (fun _ _ _ h => h) (Or.inl ⟨by rfl, ?_⟩) hHeld ?_ ?_
              rotate_left
              ·rintro w' ⟨s0, s1, s2, s3⟩
               go_simp
               with_reducible rfl
              rotate_left
              ·simp only [Act.put, lS, lZ, lU, i64_w, i32_w]
               rfl
              refine take_ (i := 13) (N := some 94) (v := ?_) (a' := ?_) #[tt,tt,tt,tt,tt,tt,tt,tt,ff,tt,tt,tt,tt,tt,ff,ff] rfl rfl (take_ofW HT_.out HW_.out (by kernel_rfl)) (fun _ _ _ h => h) (Or.inl ⟨by rfl, ?_⟩) hHeld ?_ ?_
              rotate_left
              ·rintro w' ⟨s0, s1, s2, s3⟩
               go_simp
               with_reducible rfl
              rotate_left
              ·simp only [Act.put, lS, lZ, lU, i64_w, i32_w]
               rfl
              refine one_ (i := 8) (N := some 89) (msk 14 2) rfl rfl (one_of HT_.out (by kernel_rfl)) (by decide) (fun K hK => ?_)
              refine goes_ Try.func45 (by kernel_rfl) rfl #[.agg #[.int .i64 ((rd_T32 x9_59 (ji75)).f0), .int .i64 ((rd_T32 x9_59 (ji75)).f1)]] (by rfl) rfl rfl (by (try simp only [lM, lC, lN]); first | done | (simp only [hji75]; rfl) | rfl | (simp only [lD, lT]; rfl)) ?_
              with_reducible refine (runs_end.calls ((rd_T32 x9_59 (ji75)).f0) ((rd_T32 x9_59 (ji75)).f1) t151 _ A78.out).mono ?_
              rintro e w93 ⟨rfl, hb⟩
              have HS0_ := (hb.cell (wL _ _ (hHeld.1))).trans (hHeld.1)
              have HS1_ := (hb.cell (wL _ _ (hHeld.2.1))).trans (hHeld.2.1)
              have HS2_ := (hb.cell (wL _ _ (hHeld.2.2.1))).trans (hHeld.2.2.1)
              have HS3_ := (hb.cell (wL _ _ (hHeld.2.2.2))).trans (hHeld.2.2.2)
              refine ⟨_, rfl, ?_⟩
              have n0_ := aM (rB (by (with_reducible repeat (first | apply rA | apply rN | apply rD)); exact HO_9.out) hb)
              have n1_ := aM (bB (g := gb126) (o := .cells #[.int .i64 a1_0, .int .i64 x127001_59] 32 (0, 0)) (by (with_reducible repeat (first | refine bN ?_ _ | refine bD ?_ | refine bA ?_ _)); exact BK126.out) hb)
              have n2_ := aM (wT (by repeat (first | (with_reducible first | exact HB.out | apply wA | apply wN_ | apply wD | refine wS ?_ GE126.out) | exact HB.out)) hb)
              clear HO_9
              clear BK126
              clear HB
              have HO_9 := n0_
              have BK126 := n1_
              have HB := n2_
              clear n0_ n1_ n2_
              (try clear hb)
              (try clear hb2)
              (try clear hk)
              (try clear hi)
              refine hK.out _ _ ⟨HS0_, HS1_, HS2_, HS3_⟩ (fun hHeld => ?_)
              clear hK K
              refine norm_ (a' := ?_) ?_ ?_
              rotate_left
              ·show Act.put _ (some 89) _ = _
               simp only [Act.put, lS, lZ, lU, i64_w, i32_w]
               rfl
              refine pure_ (i := 14) (N := some 95) (v := ?_) (a' := ?_) (msk 15 1) rfl rfl (any_of HT_.out (by kernel_rfl)) (fun _ _ _ h => h) (Or.inl ⟨by rfl, ?_⟩) ?_ ?_
              rotate_left
              ·intro w'
               go_simp
               with_reducible rfl
              rotate_left
              ·simp only [Act.put, lS, lZ, lU, i64_w, i32_w]
               rfl
              refine pure_ (i := 15) (N := some 96) (v := ?_) (a' := ?_) (msk 16 0) rfl rfl (any_of HT_.out (by kernel_rfl)) (fun _ _ _ h => h) (Or.inl ⟨by rfl, ?_⟩) ?_ ?_
              rotate_left
              ·intro w'
               go_simp
               with_reducible rfl
              rotate_left
              ·simp only [Act.put, lS, lZ, lU, i64_w, i32_w]
               rfl
              refine done_ (done_of HT_.out (by kernel_rfl)) ?_
              try go_wp2_with (first|(with_reducible refine wp_scope_body ?_)|(go_step3))
              go_ret2
              exact ⟨_, by first | rfl | (simp [errW_none, errW_some] <;> rfl) | (simp only [← hji75]; first | rfl | (simp [errW_none, errW_some] <;> rfl)) | (simp [*, errW_none, errW_some] <;> rfl), by (with_reducible repeat (first | apply rA | apply rN | apply rD)); exact rM HO_9.out (fun _ hk => trivial), by repeat (first | (with_reducible first | exact HB.out | apply wA | apply wN_ | apply wD | refine wS ?_ GE126.out) | exact HB.out)⟩
            ·rw [if_neg c80] at H
             exact absurd H (by simp)
           ·rw [if_neg c79] at H
            exact absurd H (by simp)
          ·rw [if_neg c77] at H
           exact absurd H (by simp)
         ·rw [if_neg c76] at H
          exact absurd H (by simp)
        ·rw [if_neg c74] at H
         have c74b0 : decide (0 < x6_4) = false := decide_eq_false c74
         clear c74
         simp only [Option.some.injEq, Prod.mk.injEq] at H
         obtain ⟨rfl, rfl⟩ := H
         try go_wp2_with (first|(with_reducible refine wp_scope_body ?_)|(go_step3))
         have n0_ := aM (rD HO_9.out)
         have n1_ := aM (bD BK126.out)
         have n2_ := aM (wD HB.out)
         clear HO_9
         clear BK126
         clear HB
         have HO_9 := n0_
         have BK126 := n1_
         have HB := n2_
         clear n0_ n1_ n2_
         refine start_ (n := 16) (S := fun w' => True) (ds := []) (msk 0 16) (by kernel_rfl) rfl rfl trivial (fun hHeld => ?_); refine with_tabW runs_Put.tab16 runs_Put.bits16 (fun HT_ HW_ => ?_)
         generalize wc.drew = w94 at HO_9 BK126 HB hHeld ⊢
         refine pure_ (i := 0) (N := some 81) (v := ?_) (a' := ?_) (msk 1 15) rfl rfl (any_of HT_.out (by kernel_rfl)) (fun _ _ _ h => h) (Or.inl ⟨by rfl, ?_⟩) ?_ ?_
         rotate_left
         ·intro w'
          go_simp
          with_reducible rfl
         rotate_left
         ·simp only [Act.put, lS, lZ, lU, i64_w, i32_w]
          rfl
         refine pure_ (i := 1) (N := some 82) (v := ?_) (a' := ?_) (msk 2 14) rfl rfl (any_of HT_.out (by kernel_rfl)) (fun _ _ _ h => h) (Or.inl ⟨by rfl, ?_⟩) ?_ ?_
         rotate_left
         ·intro w'
          go_simp
          with_reducible rfl
         rotate_left
         ·simp only [Act.put, lS, lZ, lU, i64_w, i32_w]
          rfl
         refine pure_ (i := 2) (N := some 83) (v := ?_) (a' := ?_) (msk 3 13) rfl rfl (any_of HT_.out (by kernel_rfl)) (fun _ _ _ h => h) (Or.inl ⟨by rfl, ?_⟩) ?_ ?_
         rotate_left
         ·intro w'
          go_simp
          with_reducible rfl
         rotate_left
         ·simp only [Act.put, lS, lZ, lU, i64_w, i32_w]
          rfl
         refine pure_ (i := 3) (N := some 84) (v := undef) (a' := ?_) (msk 4 12) rfl rfl (any_of HT_.out (by kernel_rfl)) (fun _ _ _ h => h) (Or.inr ⟨by rfl, rfl⟩) ?_ ?_
         rotate_left
         ·simp only [Act.put, lS, lZ, lU, i64_w, i32_w]
          rfl
         refine pure_ (i := 4) (N := some 85) (v := undef) (a' := ?_) (msk 5 11) rfl rfl (any_of HT_.out (by kernel_rfl)) (fun _ _ _ h => h) (Or.inr ⟨by rfl, rfl⟩) ?_ ?_
         rotate_left
         ·simp only [Act.put, lS, lZ, lU, i64_w, i32_w]
          rfl
         refine pure_ (i := 5) (N := some 86) (v := undef) (a' := ?_) (msk 6 10) rfl rfl (any_of HT_.out (by kernel_rfl)) (fun _ _ _ h => h) (Or.inr ⟨by rfl, rfl⟩) ?_ ?_
         rotate_left
         ·simp only [Act.put, lS, lZ, lU, i64_w, i32_w]
          rfl
         refine pure_ (i := 6) (N := some 87) (v := undef) (a' := ?_) (msk 7 9) rfl rfl (any_of HT_.out (by kernel_rfl)) (fun _ _ _ h => h) (Or.inr ⟨by rfl, rfl⟩) ?_ ?_
         rotate_left
         ·simp only [Act.put, lS, lZ, lU, i64_w, i32_w]
          rfl
         refine pure_ (i := 7) (N := some 88) (v := undef) (a' := ?_) (msk 8 8) rfl rfl (any_of HT_.out (by kernel_rfl)) (fun _ _ _ h => h) (Or.inr ⟨by rfl, rfl⟩) ?_ ?_
         rotate_left
         ·simp only [Act.put, lS, lZ, lU, i64_w, i32_w]
          rfl
         refine pure_ (i := 8) (N := some 89) (v := undef) (a' := ?_) (msk 9 7) rfl rfl (any_of HT_.out (by kernel_rfl)) (fun _ _ _ h => h) (Or.inr ⟨by rfl, rfl⟩) ?_ ?_
         rotate_left
         ·simp only [Act.put, lS, lZ, lU, i64_w, i32_w]
          rfl
         refine pure_ (i := 9) (N := some 90) (v := undef) (a' := ?_) (msk 10 6) rfl rfl (any_of HT_.out (by kernel_rfl)) (fun _ _ _ h => h) (Or.inr ⟨by rfl, rfl⟩) ?_ ?_
         rotate_left
         ·simp only [Act.put, lS, lZ, lU, i64_w, i32_w]
          rfl
         refine pure_ (i := 10) (N := some 91) (v := undef) (a' := ?_) (msk 11 5) rfl rfl (any_of HT_.out (by kernel_rfl)) (fun _ _ _ h => h) (Or.inr ⟨by rfl, rfl⟩) ?_ ?_
         rotate_left
         ·simp only [Act.put, lS, lZ, lU, i64_w, i32_w]
          rfl
         refine pure_ (i := 11) (N := some 92) (v := undef) (a' := ?_) (msk 12 4) rfl rfl (any_of HT_.out (by kernel_rfl)) (fun _ _ _ h => h) (Or.inr ⟨by rfl, rfl⟩) ?_ ?_
         rotate_left
         ·simp only [Act.put, lS, lZ, lU, i64_w, i32_w]
          rfl
         refine pure_ (i := 12) (N := some 93) (v := undef) (a' := ?_) (msk 13 3) rfl rfl (any_of HT_.out (by kernel_rfl)) (fun _ _ _ h => h) (Or.inr ⟨by rfl, rfl⟩) ?_ ?_
         rotate_left
         ·simp only [Act.put, lS, lZ, lU, i64_w, i32_w]
          rfl
         refine pure_ (i := 13) (N := some 94) (v := undef) (a' := ?_) (msk 14 2) rfl rfl (any_of HT_.out (by kernel_rfl)) (fun _ _ _ h => h) (Or.inr ⟨by rfl, rfl⟩) ?_ ?_
         rotate_left
         ·simp only [Act.put, lS, lZ, lU, i64_w, i32_w]
          rfl
         refine pure_ (i := 14) (N := some 95) (v := undef) (a' := ?_) (msk 15 1) rfl rfl (any_of HT_.out (by kernel_rfl)) (fun _ _ _ h => h) (Or.inr ⟨by rfl, rfl⟩) ?_ ?_
         rotate_left
         ·simp only [Act.put, lS, lZ, lU, i64_w, i32_w]
          rfl
         refine pure_ (i := 15) (N := some 96) (v := ?_) (a' := ?_) (msk 16 0) rfl rfl (any_of HT_.out (by kernel_rfl)) (fun _ _ _ h => h) (Or.inl ⟨by rfl, ?_⟩) ?_ ?_
         rotate_left
         ·intro w'
          go_simp
          with_reducible rfl
         rotate_left
         ·simp only [Act.put, lS, lZ, lU, i64_w, i32_w]
          rfl
         refine done_ (done_of HT_.out (by kernel_rfl)) ?_
         try go_wp2_with (first|(with_reducible refine wp_scope_body ?_)|(go_step3))
         go_ret2
         exact ⟨_, by first | rfl | (simp [errW_none, errW_some] <;> rfl) | (simp [*, errW_none, errW_some] <;> rfl), by (with_reducible repeat (first | apply rA | apply rN | apply rD)); exact rM HO_9.out (fun _ hk => trivial), by repeat (first | (with_reducible first | exact HB.out | apply wA | apply wN_ | apply wD | refine wS ?_ GE126.out) | exact HB.out)⟩
 ·replace c4 := Bool.eq_false_iff.mpr c4
  subst c4
  have H1 : (some (([] : List (S32)), 1)) = some (r1, r2) := by rw [if_neg (show ¬ (false = true) by decide)] at H; exact H
  clear H
  have H := H1
  clear H1
  simp only [Option.some.injEq, Prod.mk.injEq] at H
  obtain ⟨rfl, rfl⟩ := H
  go_enter Try.func18, Try.ntmps18
  go_wp2_with (first|(with_reducible refine wp_scope_body ?_)|(go_step3)|((with_reducible refine gate_dst (N:=3) rfl ?_);refine box_event ?hg (N:=3) ?hd (cs:=#[.int .i64 a1_0,.int .i64 a1_1]) (t:=32) ?hr ?_;(case hd => rfl);(case hg => rfl);(case hr => first|(go_simp;done)|(go_simp;rfl));intro gb126 hg w95 hbox hb;have n0_:=aM (wT (by repeat (first|(with_reducible first|exact HB.out|apply wA|apply wN_|apply wD)|exact HB.out)) hb);have n1_:=aM (hbox);have n2_:=aM ((by rw [hg];exact (wZ (by repeat (first|(with_reducible first|exact HB.out|apply wA|apply wN_|apply wD)|exact HB.out))) : w.heap.size ≤ gb126));have n3_:=aM ((by rw [hg];exact (wZ (by repeat (first|(with_reducible first|exact HB.out|apply wA|apply wN_|apply wD)|exact HB.out))) : w.heap.size ≤ gb126));clear HB;have HB:=n0_;have BK126:=n1_;have GW126:=n2_;have GE126:=n3_;clear n0_ n1_ n2_ n3_;clear hb hbox hg;have hcz96_0 : w95.cell? ⟨gb126,0,none⟩ = some (.int .i64 a1_0):=(bC BK126.out 0).trans rfl;have hcz96_1 : w95.cell? ⟨gb126,1,none⟩ = some (.int .i64 a1_1):=(bC BK126.out 1).trans rfl;have hfz96_0:=bF BK126.out 0;have hfz96_1:=bF BK126.out 1)|((with_reducible refine gate_callee (f:=44) rfl ?_);refine goesL_ (some 11) rfl rfl Try.func44 (by kernel_rfl) rfl #[.agg #[.int .i64 a1_0,.int .i64 a1_1],.int .i64 256] rfl (by (try simp only [lM,lC,lN]);first|done|rfl|(simp only [lD,lT];rfl)) ?_;(with_reducible refine (runs_within.calls a1_0 a1_1 256 false _ A3.out).mono ?_);rintro e w97 ⟨rfl,hb⟩;refine ⟨_,rfl,?_⟩;have n0_:=aM (bB (g:=gb126) (o:=.cells #[.int .i64 a1_0,.int .i64 a1_1] 32 (0,0)) (by (with_reducible repeat (first|refine bN ?_ _|refine bD ?_|refine bA ?_ _));exact BK126.out) hb);have n1_:=aM (wT (by repeat (first|(with_reducible first|exact HB.out|apply wA|apply wN_|apply wD|refine wS ?_ GE126.out)|exact HB.out)) hb);clear BK126;clear HB;have BK126:=n0_;have HB:=n1_;clear n0_ n1_;(try clear hb);(try clear hb2);(try clear hk);(try clear hi)))
  go_ret2
  exact ⟨_, by first | rfl | (simp [errW_none, errW_some] <;> rfl) | (simp [*, errW_none, errW_some] <;> rfl), by first | exact Kd.R_nil _ _ _ _ _ | exact Kd.N_nil _ _ _ _ _ | exact Kd.V_nil _ _ _ _ _ | exact Kd.Q_nil _ _ _ _ _ | exact Kd.S_nil _ _ _ _ _, by repeat (first | (with_reducible first | exact HB.out | apply wA | apply wN_ | apply wD | refine wS ?_ GE126.out) | exact HB.out)⟩

end Go.Proofs.Ythbknmblehecaaa.Pr
