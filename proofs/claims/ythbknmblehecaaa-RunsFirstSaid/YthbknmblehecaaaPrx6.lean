-- Printed by a program of this session (wip/tools/myprint.py) that runs the kit's print with contracts of this session's own.
import Derived.Test.YthbknmblehecaaaPrx0
import Derived.Test.YthbknmblehecaaaScope
import Derived.Test.YthbknmblehecaaaPrx1
import Derived.Test.YthbknmblehecaaaPrx3
import Derived.Test.YthbknmblehecaaaPrx5
namespace Go.Proofs.Ythbknmblehecaaa.Pr
open Go.RowKit Go.Proofs.YthbknmblehecaaaW.PrintWords Go.Proofs.YthbknmblehecaaaW.PrintLast Go.Proofs.YthbknmblehecaaaW.PrintMore
attribute [local go_sem] max2_int min2_int max_two min_two max_three min_three max_four min_four   -- for this text's walks alone
set_option linter.unusedVariables false
set_option linter.unusedSimpArgs false

attribute [local go_sem high] eqA32
/-! ### rickyardlaw5_RunsFirst: function 3 -/
mutual
def rickyardlaw5_RunsFirst.j0 : Nat → List (S32) → Int → Int → List (S32) → Int → Bool → Option (Bool)
 | 0, _, _, _, _, _, _ => none
 | k + 1, x5, x6, x7, x9, x10, x72 => if x72 = true then (some false) else (rickyardlaw5_RunsFirst.l0 k x5 x6 x7 x9 x10 0)
def rickyardlaw5_RunsFirst.l0 : Nat → List (S32) → Int → Int → List (S32) → Int → Int → Option (Bool)
 | 0, _, _, _, _, _, _ => none
 | k + 1, x5, x6, x7, x9, x10, x12 => if x12 < x7 then (if 0 ≤ x12 then (if x12 < (x5.length : Int) then (if ((rd_T32 x5 x12).f1) ≥ x6 then (some false) else (rickyardlaw5_RunsFirst.l0 k x5 x6 x7 x9 x10 (wrap64 (x12 + 1)))) else (none)) else (none)) else (if 0 ≤ x7 then (if x7 < (x5.length : Int) then (if ((rd_T32 x5 x7).f1) = x6 then (if (x9.length : Int) = (wrap64 ((x5.length : Int) - 1)) then (if x7 ≤ (x9.length : Int) then (if x7 ≤ (x5.length : Int) then ((rickyardref1_SameRuns.f k (x9.take (x7 : Int).toNat) (x5.take (x7 : Int).toNat)).bind fun t208 => (if t208 = true then (if 0 ≤ (wrap64 (x7 + 1)) then (if (wrap64 (x7 + 1)) ≤ (x5.length : Int) then ((rickyardref1_SameRuns.f k (x9.drop (x7 : Int).toNat) (x5.drop ((wrap64 (x7 + 1)) : Int).toNat)).bind fun t217 => (if t217 = true then ((rickyardlaw5_awake.f k).bind fun t218 => (some t218)) else (some false))) else (none)) else (none)) else (some false))) else (none)) else (none)) else (some false)) else (if (x9.length : Int) = (x5.length : Int) then (if x7 ≤ (x9.length : Int) then (if x7 ≤ (x5.length : Int) then ((rickyardref1_SameRuns.f k (x9.take (x7 : Int).toNat) (x5.take (x7 : Int).toNat)).bind fun t227 => (if t227 = true then (if x7 < (x9.length : Int) then (if (((rd_T32 x9 x7).f0) == (wrap64 (x10 + x6)) && (((rd_T32 x9 x7).f1) == (wrap64 (((rd_T32 x5 x7).f1) - x6)))) = true then (if 0 ≤ (wrap64 (x7 + 1)) then (if (wrap64 (x7 + 1)) ≤ (x9.length : Int) then (if (wrap64 (x7 + 1)) ≤ (x5.length : Int) then ((rickyardref1_SameRuns.f k (x9.drop ((wrap64 (x7 + 1)) : Int).toNat) (x5.drop ((wrap64 (x7 + 1)) : Int).toNat)).bind fun t238 => (if t238 = true then ((rickyardlaw5_awake.f k).bind fun t239 => (some t239)) else (some false))) else (none)) else (none)) else (none)) else (some false)) else (none)) else (some false))) else (none)) else (none)) else (some false))) else (none)) else (none))
end
def rickyardlaw5_RunsFirst.f (k : Nat) (l0 : List Int) (a1 : Int) : Option (Bool) := (rickyardlaw5_Made.f k l0).bind fun t185 => ((runs_Fit.f t185 (wrap64 (1 + (Int.tmod (wrap64 (a1)) 24)))).bind fun bt188 => ((runs_Take.f t185 (wrap64 (1 + (Int.tmod (wrap64 (a1)) 24)))).bind fun bt190 => (if bt188.2 = true then (if bt190.2.2 = 0 then (if bt188.1 < 0 then (rickyardlaw5_RunsFirst.j0 k t185 (wrap64 (1 + (Int.tmod (wrap64 (a1)) 24))) bt188.1 bt190.1 bt190.2.1 true) else (if bt188.1 ≥ (t185.length : Int) then (rickyardlaw5_RunsFirst.j0 k t185 (wrap64 (1 + (Int.tmod (wrap64 (a1)) 24))) bt188.1 bt190.1 bt190.2.1 true) else (if 0 ≤ bt188.1 then (if bt188.1 < (t185.length : Int) then (if bt190.2.1 = ((rd_T32 t185 bt188.1).f0) then (rickyardlaw5_RunsFirst.j0 k t185 (wrap64 (1 + (Int.tmod (wrap64 (a1)) 24))) bt188.1 bt190.1 bt190.2.1 (decide (((rd_T32 t185 bt188.1).f1) < (wrap64 (1 + (Int.tmod (wrap64 (a1)) 24)))))) else (rickyardlaw5_RunsFirst.j0 k t185 (wrap64 (1 + (Int.tmod (wrap64 (a1)) 24))) bt188.1 bt190.1 bt190.2.1 true)) else (none)) else (none)))) else (rickyardlaw5_RunsFirst.j0 k t185 (wrap64 (1 + (Int.tmod (wrap64 (a1)) 24))) bt188.1 bt190.1 bt190.2.1 true)) else (if bt190.2.2 = 3 then (if bt188.1 = 0 then ((rickyardlaw5_awake.f k).bind fun t195 => (some t195)) else (some false)) else (some false)))))
theorem rickyardlaw5_RunsFirst.mono_l : ∀ k, (∀ y0 y1 y2 y3 y4 y5, LeO (rickyardlaw5_RunsFirst.j0 k y0 y1 y2 y3 y4 y5) (rickyardlaw5_RunsFirst.j0 (k + 1) y0 y1 y2 y3 y4 y5)) ∧ (∀ y0 y1 y2 y3 y4 y5, LeO (rickyardlaw5_RunsFirst.l0 k y0 y1 y2 y3 y4 y5) (rickyardlaw5_RunsFirst.l0 (k + 1) y0 y1 y2 y3 y4 y5))
 | 0 => ⟨fun _ _ _ _ _ _ r h => by simp [rickyardlaw5_RunsFirst.j0] at h, fun _ _ _ _ _ _ r h => by simp [rickyardlaw5_RunsFirst.l0] at h⟩
 | k + 1 => by
  obtain ⟨ih0, ih1⟩ := rickyardlaw5_RunsFirst.mono_l k
  refine ⟨?_, ?_⟩
  ·intro y0 y1 y2 y3 y4 y5
   unfold rickyardlaw5_RunsFirst.j0
   repeat' first
   | (with_reducible exact ih0 _ _ _ _ _ _)
   | (with_reducible exact ih1 _ _ _ _ _ _)
   | (with_reducible exact rickyardlaw5_Made.mono _ _)
   | (with_reducible exact rickyardlaw5_awake.mono _)
   | (with_reducible exact rickyardref1_SameRuns.mono _ _ _)
   | (with_reducible exact LeO.refl _)
   | (with_reducible exact LeO.none _)
   | (with_reducible refine LeO.ite ?_ ?_)
   | (with_reducible refine LeO.bind ?_ (fun _ => ?_))
   | exact ih0 _ _ _ _ _ _
   | exact ih1 _ _ _ _ _ _
   | exact rickyardlaw5_Made.mono _ _
   | exact rickyardlaw5_awake.mono _
   | exact rickyardref1_SameRuns.mono _ _ _
   | exact LeO.none _
   | refine LeO.ite ?_ ?_
   | refine LeO.bind ?_ (fun _ => ?_)
  ·intro y0 y1 y2 y3 y4 y5
   unfold rickyardlaw5_RunsFirst.l0
   repeat' first
   | (with_reducible exact ih0 _ _ _ _ _ _)
   | (with_reducible exact ih1 _ _ _ _ _ _)
   | (with_reducible exact rickyardlaw5_Made.mono _ _)
   | (with_reducible exact rickyardlaw5_awake.mono _)
   | (with_reducible exact rickyardref1_SameRuns.mono _ _ _)
   | (with_reducible exact LeO.refl _)
   | (with_reducible exact LeO.none _)
   | (with_reducible refine LeO.ite ?_ ?_)
   | (with_reducible refine LeO.bind ?_ (fun _ => ?_))
   | exact ih0 _ _ _ _ _ _
   | exact ih1 _ _ _ _ _ _
   | exact rickyardlaw5_Made.mono _ _
   | exact rickyardlaw5_awake.mono _
   | exact rickyardref1_SameRuns.mono _ _ _
   | exact LeO.none _
   | refine LeO.ite ?_ ?_
   | refine LeO.bind ?_ (fun _ => ?_)
theorem rickyardlaw5_RunsFirst.mono : ∀ a0 a1 k, LeO (rickyardlaw5_RunsFirst.f k a0 a1) (rickyardlaw5_RunsFirst.f (k + 1) a0 a1) := by
 intro a0 a1 k
 obtain ⟨ih0, ih1⟩ := rickyardlaw5_RunsFirst.mono_l k
 unfold rickyardlaw5_RunsFirst.f
 repeat' first
   | (with_reducible exact ih0 _ _ _ _ _ _)
   | (with_reducible exact ih1 _ _ _ _ _ _)
   | (with_reducible exact rickyardlaw5_Made.mono _ _)
   | (with_reducible exact rickyardlaw5_awake.mono _)
   | (with_reducible exact rickyardref1_SameRuns.mono _ _ _)
   | (with_reducible exact LeO.refl _)
   | (with_reducible exact LeO.none _)
   | (with_reducible refine LeO.ite ?_ ?_)
   | (with_reducible refine LeO.bind ?_ (fun _ => ?_))
   | exact ih0 _ _ _ _ _ _
   | exact ih1 _ _ _ _ _ _
   | exact rickyardlaw5_Made.mono _ _
   | exact rickyardlaw5_awake.mono _
   | exact rickyardref1_SameRuns.mono _ _ _
   | exact LeO.none _
   | refine LeO.ite ?_ ?_
   | refine LeO.bind ?_ (fun _ => ?_)
def rickyardlaw5_RunsFirst.T15 : Bool × List (List Nat × List Nat) := (true, [([], []), ([0], [0]), ([], []), ([2], [2]), ([3], [3]), ([1, 4], [1, 4]), ([5], [5]), ([6], [6]), ([6], [6]), ([7, 8, 6], [6, 7, 8]), ([6], [6]), ([6], [6]), ([10, 11, 6], [6, 10, 11]), ([9, 12, 6, 6], [6, 9, 12]), ([6, 13], [6, 13]), ([14, 13], [14]), ([15], [15]), ([15], [15]), ([16, 17, 15], [15, 16, 17]), ([15], [15]), ([15], [15]), ([20, 15], [15, 20]), ([19, 21, 15], [15, 19, 21]), ([18, 22, 15, 15], [15, 18, 22]), ([15, 23], [15, 23]), ([24, 23], [24]), ([25, 25], [25]), ([25, 26], [25, 26]), ([27, 26, 0, 1, 2, 3, 4, 5, 6, 7, 8, 9, 10, 11, 12, 13, 14, 15, 16, 17, 18, 19, 20, 21, 22, 23, 24, 25, 26, 27], [27])])
def rickyardlaw5_RunsFirst.B15 : List Nat := [0, 1, 0, 4, 12, 31, 63, 127, 127, 511, 127, 127, 3199, 8191, 16383, 32767, 65535, 65535, 262143, 65535, 65535, 1114111, 3735551, 8388607, 16777215, 33554431, 67108863, 134217727, 268435455]
theorem rickyardlaw5_RunsFirst.tab15 : rtab .any (opsOf Try.f3 15) = rickyardlaw5_RunsFirst.T15 := by kernel_rfl
theorem rickyardlaw5_RunsFirst.bits15 : waitsOk rickyardlaw5_RunsFirst.T15.2 rickyardlaw5_RunsFirst.B15 = true := by kernel_rfl
def rickyardlaw5_RunsFirst.T16 : Bool × List (List Nat × List Nat) := (true, [([], []), ([0], [0]), ([], []), ([2], [2]), ([1, 3], [1, 3]), ([4], [4]), ([5], [5]), ([5], [5]), ([6, 7, 5], [5, 6, 7]), ([5], [5]), ([5], [5]), ([9, 10, 5], [5, 9, 10]), ([8, 11, 5, 5], [5, 8, 11]), ([5, 12], [5, 12]), ([13, 12], [13]), ([14], [14]), ([14], [14]), ([15, 16, 14], [14, 15, 16]), ([17, 14], [14, 17]), ([14], [14]), ([14], [14]), ([19, 20, 14], [14, 19, 20]), ([14], [14]), ([14], [14]), ([22, 23, 14], [14, 22, 23]), ([24, 14], [14, 24]), ([25, 14], [14, 25]), ([14], [14]), ([26, 27, 14], [14, 26, 27]), ([21, 28, 14], [14, 21, 28]), ([18, 29, 14], [14, 18, 29]), ([14, 30], [14, 30]), ([31, 14], [31]), ([32], [32]), ([32], [32]), ([34, 32], [32, 34]), ([33, 35, 32], [32, 33, 35]), ([32], [32]), ([32], [32]), ([38, 32], [32, 38]), ([37, 39, 32], [32, 37, 39]), ([36, 40, 32, 32], [32, 36, 40]), ([32, 41], [32, 41]), ([42, 41], [42]), ([43, 43], [43]), ([43, 44], [43, 44]), ([45, 44, 0, 1, 2, 3, 4, 5, 6, 7, 8, 9, 10, 11, 12, 13, 14, 15, 16, 17, 18, 19, 20, 21, 22, 23, 24, 25, 26, 27, 28, 29, 30, 31, 32, 33, 34, 35, 36, 37, 38, 39, 40, 41, 42, 43, 44, 45], [45])])
def rickyardlaw5_RunsFirst.B16 : List Nat := [0, 1, 0, 4, 15, 31, 63, 63, 255, 63, 63, 1599, 4095, 8191, 16383, 32767, 32767, 131071, 262143, 32767, 32767, 1605631, 32767, 32767, 12615679, 29392895, 62947327, 32767, 264273919, 536379391, 1073741823, 2147483647, 4294967295, 8589934591, 8589934591, 25769803775, 68719476735, 8589934591, 8589934591, 283467841535, 970662608895, 2199023255551, 4398046511103, 8796093022207, 17592186044415, 35184372088831, 70368744177663]
theorem rickyardlaw5_RunsFirst.tab16 : rtab .any (opsOf Try.f3 16) = rickyardlaw5_RunsFirst.T16 := by kernel_rfl
theorem rickyardlaw5_RunsFirst.bits16 : waitsOk rickyardlaw5_RunsFirst.T16.2 rickyardlaw5_RunsFirst.B16 = true := by kernel_rfl
set_option maxHeartbeats 8000000 in
set_option maxRecDepth 100000 in
theorem rickyardlaw5_RunsFirst.calls (k : Nat) (A0 : Option Addr) (c0 : Nat) (l0 : List Int) (a1 : Int) (r : Bool) (w : World) (hr0 : Kd.C (Kd.int .u8) w A0 l0.length l0) (hc0 : l0.length ≤ c0) (h : rickyardlaw5_RunsFirst.f k l0 a1 = some r) :
  Calls Try.prog 3 #[.slice A0 l0.length c0, .int .u8 a1] w fun e w' => e = .returned (.bool r) ∧ Below w.heap.size w w' := by
 have hu32 := Try.underlying32
 have HR0 := Aside0.mk hr0
 have HC0 := Aside0.mk hc0
 clear hr0 hc0
 have HB := Aside0.mk (Below.refl w.heap.size w)
 have H : ((rickyardlaw5_Made.f k l0).bind fun t185 => ((runs_Fit.f t185 (wrap64 (1 + (Int.tmod (wrap64 (a1)) 24)))).bind fun bt188 => ((runs_Take.f t185 (wrap64 (1 + (Int.tmod (wrap64 (a1)) 24)))).bind fun bt190 => (if bt188.2 = true then (if bt190.2.2 = 0 then (if bt188.1 < 0 then (rickyardlaw5_RunsFirst.j0 k t185 (wrap64 (1 + (Int.tmod (wrap64 (a1)) 24))) bt188.1 bt190.1 bt190.2.1 true) else (if bt188.1 ≥ (t185.length : Int) then (rickyardlaw5_RunsFirst.j0 k t185 (wrap64 (1 + (Int.tmod (wrap64 (a1)) 24))) bt188.1 bt190.1 bt190.2.1 true) else (if 0 ≤ bt188.1 then (if bt188.1 < (t185.length : Int) then (if bt190.2.1 = ((rd_T32 t185 bt188.1).f0) then (rickyardlaw5_RunsFirst.j0 k t185 (wrap64 (1 + (Int.tmod (wrap64 (a1)) 24))) bt188.1 bt190.1 bt190.2.1 (decide (((rd_T32 t185 bt188.1).f1) < (wrap64 (1 + (Int.tmod (wrap64 (a1)) 24)))))) else (rickyardlaw5_RunsFirst.j0 k t185 (wrap64 (1 + (Int.tmod (wrap64 (a1)) 24))) bt188.1 bt190.1 bt190.2.1 true)) else (none)) else (none)))) else (rickyardlaw5_RunsFirst.j0 k t185 (wrap64 (1 + (Int.tmod (wrap64 (a1)) 24))) bt188.1 bt190.1 bt190.2.1 true)) else (if bt190.2.2 = 3 then (if bt188.1 = 0 then ((rickyardlaw5_awake.f k).bind fun t195 => (some t195)) else (some false)) else (some false)))))) = some r := h
 clear h
 replace H := Option.bind_eq_some_iff.mp H
 obtain ⟨t185, A30, H⟩ := H
 replace H : ((runs_Fit.f t185 (wrap64 (1 + (Int.tmod (wrap64 (a1)) 24)))).bind fun bt188 => ((runs_Take.f t185 (wrap64 (1 + (Int.tmod (wrap64 (a1)) 24)))).bind fun bt190 => (if bt188.2 = true then (if bt190.2.2 = 0 then (if bt188.1 < 0 then (rickyardlaw5_RunsFirst.j0 k t185 (wrap64 (1 + (Int.tmod (wrap64 (a1)) 24))) bt188.1 bt190.1 bt190.2.1 true) else (if bt188.1 ≥ (t185.length : Int) then (rickyardlaw5_RunsFirst.j0 k t185 (wrap64 (1 + (Int.tmod (wrap64 (a1)) 24))) bt188.1 bt190.1 bt190.2.1 true) else (if 0 ≤ bt188.1 then (if bt188.1 < (t185.length : Int) then (if bt190.2.1 = ((rd_T32 t185 bt188.1).f0) then (rickyardlaw5_RunsFirst.j0 k t185 (wrap64 (1 + (Int.tmod (wrap64 (a1)) 24))) bt188.1 bt190.1 bt190.2.1 (decide (((rd_T32 t185 bt188.1).f1) < (wrap64 (1 + (Int.tmod (wrap64 (a1)) 24)))))) else (rickyardlaw5_RunsFirst.j0 k t185 (wrap64 (1 + (Int.tmod (wrap64 (a1)) 24))) bt188.1 bt190.1 bt190.2.1 true)) else (none)) else (none)))) else (rickyardlaw5_RunsFirst.j0 k t185 (wrap64 (1 + (Int.tmod (wrap64 (a1)) 24))) bt188.1 bt190.1 bt190.2.1 true)) else (if bt190.2.2 = 3 then (if bt188.1 = 0 then ((rickyardlaw5_awake.f k).bind fun t195 => (some t195)) else (some false)) else (some false))))) = some r := H
 have A3 := Aside0.mk A30
 clear A30
 replace H := Option.bind_eq_some_iff.mp H
 obtain ⟨⟨t188, t189⟩, A40, H⟩ := H
 replace H : ((runs_Take.f t185 (wrap64 (1 + (Int.tmod (wrap64 (a1)) 24)))).bind fun bt190 => (if t189 = true then (if bt190.2.2 = 0 then (if t188 < 0 then (rickyardlaw5_RunsFirst.j0 k t185 (wrap64 (1 + (Int.tmod (wrap64 (a1)) 24))) t188 bt190.1 bt190.2.1 true) else (if t188 ≥ (t185.length : Int) then (rickyardlaw5_RunsFirst.j0 k t185 (wrap64 (1 + (Int.tmod (wrap64 (a1)) 24))) t188 bt190.1 bt190.2.1 true) else (if 0 ≤ t188 then (if t188 < (t185.length : Int) then (if bt190.2.1 = ((rd_T32 t185 t188).f0) then (rickyardlaw5_RunsFirst.j0 k t185 (wrap64 (1 + (Int.tmod (wrap64 (a1)) 24))) t188 bt190.1 bt190.2.1 (decide (((rd_T32 t185 t188).f1) < (wrap64 (1 + (Int.tmod (wrap64 (a1)) 24)))))) else (rickyardlaw5_RunsFirst.j0 k t185 (wrap64 (1 + (Int.tmod (wrap64 (a1)) 24))) t188 bt190.1 bt190.2.1 true)) else (none)) else (none)))) else (rickyardlaw5_RunsFirst.j0 k t185 (wrap64 (1 + (Int.tmod (wrap64 (a1)) 24))) t188 bt190.1 bt190.2.1 true)) else (if bt190.2.2 = 3 then (if t188 = 0 then ((rickyardlaw5_awake.f k).bind fun t195 => (some t195)) else (some false)) else (some false)))) = some r := H
 have A4 := Aside0.mk A40
 clear A40
 replace H := Option.bind_eq_some_iff.mp H
 obtain ⟨⟨t190, t191, t192⟩, A50, H⟩ := H
 replace H : (if t189 = true then (if t192 = 0 then (if t188 < 0 then (rickyardlaw5_RunsFirst.j0 k t185 (wrap64 (1 + (Int.tmod (wrap64 (a1)) 24))) t188 t190 t191 true) else (if t188 ≥ (t185.length : Int) then (rickyardlaw5_RunsFirst.j0 k t185 (wrap64 (1 + (Int.tmod (wrap64 (a1)) 24))) t188 t190 t191 true) else (if 0 ≤ t188 then (if t188 < (t185.length : Int) then (if t191 = ((rd_T32 t185 t188).f0) then (rickyardlaw5_RunsFirst.j0 k t185 (wrap64 (1 + (Int.tmod (wrap64 (a1)) 24))) t188 t190 t191 (decide (((rd_T32 t185 t188).f1) < (wrap64 (1 + (Int.tmod (wrap64 (a1)) 24)))))) else (rickyardlaw5_RunsFirst.j0 k t185 (wrap64 (1 + (Int.tmod (wrap64 (a1)) 24))) t188 t190 t191 true)) else (none)) else (none)))) else (rickyardlaw5_RunsFirst.j0 k t185 (wrap64 (1 + (Int.tmod (wrap64 (a1)) 24))) t188 t190 t191 true)) else (if t192 = 3 then (if t188 = 0 then ((rickyardlaw5_awake.f k).bind fun t195 => (some t195)) else (some false)) else (some false))) = some r := H
 have A5 := Aside0.mk A50
 clear A50
 by_cases c6 : t189 = true
 ·subst c6
  have H1 : (if t192 = 0 then (if t188 < 0 then (rickyardlaw5_RunsFirst.j0 k t185 (wrap64 (1 + (Int.tmod (wrap64 (a1)) 24))) t188 t190 t191 true) else (if t188 ≥ (t185.length : Int) then (rickyardlaw5_RunsFirst.j0 k t185 (wrap64 (1 + (Int.tmod (wrap64 (a1)) 24))) t188 t190 t191 true) else (if 0 ≤ t188 then (if t188 < (t185.length : Int) then (if t191 = ((rd_T32 t185 t188).f0) then (rickyardlaw5_RunsFirst.j0 k t185 (wrap64 (1 + (Int.tmod (wrap64 (a1)) 24))) t188 t190 t191 (decide (((rd_T32 t185 t188).f1) < (wrap64 (1 + (Int.tmod (wrap64 (a1)) 24)))))) else (rickyardlaw5_RunsFirst.j0 k t185 (wrap64 (1 + (Int.tmod (wrap64 (a1)) 24))) t188 t190 t191 true)) else (none)) else (none)))) else (rickyardlaw5_RunsFirst.j0 k t185 (wrap64 (1 + (Int.tmod (wrap64 (a1)) 24))) t188 t190 t191 true)) = some r := by rw [if_pos rfl] at H; exact H
  clear H
  have H := H1
  clear H1
  have HC7 := Aside0.mk H
  clear H
  go_enter Try.func3, Try.ntmps3
  go_upto_region 7 with (first | ((with_reducible refine gate_callee (f := 13) rfl ?_); refine goesL_ (some 14) rfl rfl Try.func13 (by kernel_rfl) rfl #[.slice A0 l0.length c0] rfl (by (try simp only [List.map_toArray, List.map_cons, List.map_nil]); first | done | rfl | (simp only [List.length_drop, List.length_take]; rfl)) ?_; (with_reducible refine (rickyardlaw5_Made.calls k _ _ l0 t185 _ ?side1 ?side2 A3.out).mono ?_); (case side1 => repeat (first | exact HR0.out | (with_reducible refine Kd.C_alloc ?_ _) | (with_reducible refine Kd.C_drewN ?_ _) | (with_reducible refine Kd.C_drew ?_))); (case side2 => exact HC0.out); rintro e w8 ⟨v186, rfl, ho0, hb⟩; refine ⟨_, rfl, ?_⟩; have n0_ := Aside0.mk (Kd.R_lower ho0 (below_size (by repeat (first | (with_reducible first | exact HB.out | apply below_alloc | apply pw_below_drewN | apply below_drew1) | exact HB.out)))); have n1_ := Aside0.mk (below_step (by repeat (first | (with_reducible first | exact HB.out | apply below_alloc | apply pw_below_drewN | apply below_drew1) | exact HB.out)) hb); clear HB; have HO187 := n0_; have HB := n1_; clear n0_ n1_; (try clear hb); (try clear hb2); (try clear hk); (try clear hi); (try clear ho0); obtain ⟨Ao9, co9, eo9⟩ := Kd.R_slice HO187.out; subst eo9) | ((with_reducible refine gate_callee (f := 14) rfl ?_); refine goesL_ (some 22) rfl rfl Try.func14 (by kernel_rfl) rfl #[.slice Ao9 t185.length co9, .int .i64 (wrap64 (1 + (Int.tmod (wrap64 (a1)) 24)))] rfl (by (try simp only [List.map_toArray, List.map_cons, List.map_nil]); first | done | rfl | (simp only [List.length_drop, List.length_take]; rfl)) ?_; (with_reducible refine (runs_Fit.calls _ _ t185 (wrap64 (1 + (Int.tmod (wrap64 (a1)) 24))) t188 true _ ?side1 ?side2 A4.out).mono ?_); (case side1 => repeat (first | exact (Kd.R_reads' HO187.out).2.2 | (with_reducible refine Kd.C_alloc ?_ _) | (with_reducible refine Kd.C_drewN ?_ _) | (with_reducible refine Kd.C_drew ?_))); (case side2 => exact (Kd.R_reads' HO187.out).2.1); rintro e w10 ⟨rfl, hb⟩; refine ⟨_, rfl, ?_⟩; have n0_ := Aside0.mk (Kd.R_below (by (with_reducible repeat (first | apply Kd.R_alloc | apply Kd.R_drewN | apply Kd.R_drew)); exact HO187.out) hb); have n1_ := Aside0.mk (below_step (by repeat (first | (with_reducible first | exact HB.out | apply below_alloc | apply pw_below_drewN | apply below_drew1) | exact HB.out)) hb); clear HO187; clear HB; have HO187 := n0_; have HB := n1_; clear n0_ n1_; (try clear hb); (try clear hb2); (try clear hk); (try clear hi)) | ((with_reducible refine gate_callee (f := 15) rfl ?_); refine goesL_ (some 28) rfl rfl Try.func15 (by kernel_rfl) rfl #[.slice Ao9 t185.length co9, .int .i64 (wrap64 (1 + (Int.tmod (wrap64 (a1)) 24)))] rfl (by (try simp only [List.map_toArray, List.map_cons, List.map_nil]); first | done | rfl | (simp only [List.length_drop, List.length_take]; rfl)) ?_; (with_reducible refine (runs_Take.calls _ _ t185 (wrap64 (1 + (Int.tmod (wrap64 (a1)) 24))) t190 t191 t192 _ ?side1 ?side2 A5.out).mono ?_); (case side1 => repeat (first | exact (Kd.R_reads' HO187.out).2.2 | (with_reducible refine Kd.C_alloc ?_ _) | (with_reducible refine Kd.C_drewN ?_ _) | (with_reducible refine Kd.C_drew ?_))); (case side2 => exact (Kd.R_reads' HO187.out).2.1); rintro e w11 ⟨v193, rfl, ho0, hb⟩; refine ⟨_, rfl, ?_⟩; have n0_ := Aside0.mk (Kd.R_elder' (by (with_reducible repeat (first | apply Kd.R_alloc | apply Kd.R_drewN | apply Kd.R_drew)); exact HO187.out) (Kd.R_base ho0) hb); have n1_ := Aside0.mk (Kd.R_lower (Kd.R_new' ho0 (Kd.R_lt (by (with_reducible repeat (first | apply Kd.R_alloc | apply Kd.R_drewN | apply Kd.R_drew)); exact HO187.out))) (below_size (by repeat (first | (with_reducible first | exact HB.out | apply below_alloc | apply pw_below_drewN | apply below_drew1) | exact HB.out)))); have n2_ := Aside0.mk (below_step (by repeat (first | (with_reducible first | exact HB.out | apply below_alloc | apply pw_below_drewN | apply below_drew1) | exact HB.out)) hb); clear HO187; clear HB; have HO187 := n0_; have HO194 := n1_; have HB := n2_; clear n0_ n1_ n2_; (try clear hb); (try clear hb2); (try clear hk); (try clear hi); (try clear ho0)))
  (try simp only [Act.put, List.setIfInBounds_toArray, List.set_cons_zero, List.set_cons_succ])
  go_cut [72] (fun v72 wc => ∃ (kq : Nat) (x72_6 : Bool), v72 = .bool x72_6 ∧ Aside0 (rickyardlaw5_RunsFirst.j0 kq t185 (wrap64 (1 + (Int.tmod (wrap64 (a1)) 24))) t188 t190 t191 x72_6 = some r) ∧ Aside0 (kq ≤ k) ∧ Aside0 (Kd.R k32 32 wc w.heap.size (fun k_ => some k_ ≠ (v193 : Value).ownBlock) (.slice Ao9 t185.length co9) t185) ∧ Aside0 (Kd.R k32 32 wc w.heap.size (fun k_ => some k_ ≠ ((.slice Ao9 t185.length co9) : Value).ownBlock) v193 t190) ∧ Aside0 (Below w.heap.size w wc))
  case first =>
   have H := HC7.out
   clear HC7
   by_cases c12 : t192 = 0
   ·rw [if_pos c12] at H
    have c12b0 : (t192 == 0) = true := beq_iff_eq.mpr c12
    have c12b1 : (t192 != 0) = false := bne_eq_false_iff_eq.mpr c12
    clear c12
    (first | rw [c12b0] | (simp only [i64_w, i32_w]; rw [c12b0]) | skip)
    by_cases c13 : t188 < 0
    ·rw [if_pos c13] at H
     have c13b0 : decide (t188 < 0) = true := decide_eq_true c13
     clear c13
     have H' := Aside0.mk H
     clear H
     go_wp2
     go_meet
     case rel => exact ⟨_, (true), (by first | rfl | (simp; done) | (simp [*]; done)), H', ⟨by first | omega | exact Nat.le_refl _⟩, ⟨by (with_reducible repeat (first | apply Kd.R_alloc | apply Kd.R_drewN | apply Kd.R_drew)); exact Kd.R_mono HO187.out (fun _ hk => hk.2)⟩, ⟨by (with_reducible repeat (first | apply Kd.R_alloc | apply Kd.R_drewN | apply Kd.R_drew)); exact Kd.R_mono HO194.out (fun _ hk => hk.2)⟩, ⟨by repeat (first | (with_reducible first | exact HB.out | apply below_alloc | apply pw_below_drewN | apply below_drew1) | exact HB.out)⟩⟩
    ·rw [if_neg c13] at H
     have c13b0 : decide (t188 < 0) = false := decide_eq_false c13
     clear c13
     by_cases c14 : t188 ≥ (t185.length : Int)
     ·rw [if_pos c14] at H
      have c14b0 : decide ((t185.length : Int) ≤ t188) = true := decide_eq_true c14
      clear c14
      have H' := Aside0.mk H
      clear H
      go_wp2
      go_meet
      case rel => exact ⟨_, (true), (by first | rfl | (simp; done) | (simp [*]; done)), H', ⟨by first | omega | exact Nat.le_refl _⟩, ⟨by (with_reducible repeat (first | apply Kd.R_alloc | apply Kd.R_drewN | apply Kd.R_drew)); exact Kd.R_mono HO187.out (fun _ hk => hk.2)⟩, ⟨by (with_reducible repeat (first | apply Kd.R_alloc | apply Kd.R_drewN | apply Kd.R_drew)); exact Kd.R_mono HO194.out (fun _ hk => hk.2)⟩, ⟨by repeat (first | (with_reducible first | exact HB.out | apply below_alloc | apply pw_below_drewN | apply below_drew1) | exact HB.out)⟩⟩
     ·rw [if_neg c14] at H
      have c14b0 : decide ((t185.length : Int) ≤ t188) = false := decide_eq_false c14
      clear c14
      by_cases c15 : 0 ≤ t188
      ·rw [if_pos c15] at H
       have c15b0 : decide (0 ≤ t188) = true := decide_eq_true c15
       clear c15
       by_cases c16 : t188 < (t185.length : Int)
       ·rw [if_pos c16] at H
        have c16b0 : decide (t188 < (t185.length : Int)) = true := decide_eq_true c16
        clear c16
        by_cases c17 : t191 = ((rd_T32 t185 t188).f0)
        ·rw [if_pos c17] at H
         have c17b0 : (t191 == ((rd_T32 t185 t188).f0)) = true := beq_iff_eq.mpr c17
         have c17b1 : (t191 != ((rd_T32 t185 t188).f0)) = false := bne_eq_false_iff_eq.mpr c17
         clear c17
         have H' := Aside0.mk H
         clear H
         have p196 : 0 ≤ (t188 : Int) := of_decide_eq_true (by first | (with_reducible assumption) | assumption)
         have q196 : t188 < (t185.length : Int) := of_decide_eq_true (by first | (with_reducible assumption) | assumption)
         obtain ⟨ad196, e196, hx196_0, hx196_1⟩ := at_T32 (Kd.R_reads' HO187.out).2.2 t188 p196 q196
         cases e196
         replace p196 := eq_true p196
         replace q196 := eq_true q196
         have p197 : 0 ≤ (t188 : Int) := of_decide_eq_true (by first | (with_reducible assumption) | assumption)
         have q197 : t188 < (t185.length : Int) := of_decide_eq_true (by first | (with_reducible assumption) | assumption)
         obtain ⟨ad197, e197, hx197_0, hx197_1⟩ := at_T32 (Kd.R_reads' HO187.out).2.2 t188 p197 q197
         obtain rfl : ad196 = ad197 := (by injection e197)
         replace p197 := eq_true p197
         replace q197 := eq_true q197
         go_wp2
         go_meet
         case rel => exact ⟨_, (decide (((rd_T32 t185 t188).f1) < (wrap64 (1 + (Int.tmod (wrap64 (a1)) 24))))), (by first | rfl | (simp; done) | (simp [*]; done)), H', ⟨by first | omega | exact Nat.le_refl _⟩, ⟨by (with_reducible repeat (first | apply Kd.R_alloc | apply Kd.R_drewN | apply Kd.R_drew)); exact Kd.R_mono HO187.out (fun _ hk => hk.2)⟩, ⟨by (with_reducible repeat (first | apply Kd.R_alloc | apply Kd.R_drewN | apply Kd.R_drew)); exact Kd.R_mono HO194.out (fun _ hk => hk.2)⟩, ⟨by repeat (first | (with_reducible first | exact HB.out | apply below_alloc | apply pw_below_drewN | apply below_drew1) | exact HB.out)⟩⟩
        ·rw [if_neg c17] at H
         have c17b0 : (t191 == ((rd_T32 t185 t188).f0)) = false := beq_eq_false_iff_ne.mpr c17
         have c17b1 : (t191 != ((rd_T32 t185 t188).f0)) = true := bne_iff_ne.mpr c17
         have H' := Aside0.mk H
         clear H
         have p196 : 0 ≤ (t188 : Int) := of_decide_eq_true (by first | (with_reducible assumption) | assumption)
         have q196 : t188 < (t185.length : Int) := of_decide_eq_true (by first | (with_reducible assumption) | assumption)
         obtain ⟨ad196, e196, hx196_0, hx196_1⟩ := at_T32 (Kd.R_reads' HO187.out).2.2 t188 p196 q196
         cases e196
         replace p196 := eq_true p196
         replace q196 := eq_true q196
         go_wp2
         go_meet
         case rel => exact ⟨_, (true), (by first | rfl | (simp; done) | (simp [*]; done)), H', ⟨by first | omega | exact Nat.le_refl _⟩, ⟨by (with_reducible repeat (first | apply Kd.R_alloc | apply Kd.R_drewN | apply Kd.R_drew)); exact Kd.R_mono HO187.out (fun _ hk => hk.2)⟩, ⟨by (with_reducible repeat (first | apply Kd.R_alloc | apply Kd.R_drewN | apply Kd.R_drew)); exact Kd.R_mono HO194.out (fun _ hk => hk.2)⟩, ⟨by repeat (first | (with_reducible first | exact HB.out | apply below_alloc | apply pw_below_drewN | apply below_drew1) | exact HB.out)⟩⟩
       ·rw [if_neg c16] at H
        exact absurd H (by simp)
      ·rw [if_neg c15] at H
       exact absurd H (by simp)
   ·rw [if_neg c12] at H
    have c12b0 : (t192 == 0) = false := beq_eq_false_iff_ne.mpr c12
    have c12b1 : (t192 != 0) = true := bne_iff_ne.mpr c12
    (first | rw [c12b0] | (simp only [i64_w, i32_w]; rw [c12b0]) | skip)
    have H' := Aside0.mk H
    clear H
    go_wp2
    go_meet
    case rel => exact ⟨_, (true), (by first | rfl | (simp; done) | (simp [*]; done)), H', ⟨by first | omega | exact Nat.le_refl _⟩, ⟨by (with_reducible repeat (first | apply Kd.R_alloc | apply Kd.R_drewN | apply Kd.R_drew)); exact Kd.R_mono HO187.out (fun _ hk => hk.2)⟩, ⟨by (with_reducible repeat (first | apply Kd.R_alloc | apply Kd.R_drewN | apply Kd.R_drew)); exact Kd.R_mono HO194.out (fun _ hk => hk.2)⟩, ⟨by repeat (first | (with_reducible first | exact HB.out | apply below_alloc | apply pw_below_drewN | apply below_drew1) | exact HB.out)⟩⟩
  case rest =>
   clear HC7
   try clear c1
   try clear p1
   try clear q1
   try clear hx1
   try clear p2
   try clear c3
   try clear c6
   try clear p6
   try clear c12
   try clear c12b0
   try clear c12b1
   try clear c13
   try clear c13b0
   try clear c14
   try clear c14b0
   try clear c15
   try clear c15b0
   try clear c16
   try clear c16b0
   try clear c17
   try clear c17b0
   try clear c17b1
   try clear hx196_0
   try clear hx196_1
   try clear hx197_0
   try clear hx197_1
   try clear p196
   try clear p197
   try clear q196
   try clear q197
   obtain ⟨kq, x72_6, rfl, HA, HJ6, HO_5, HO_9, HB⟩ := hcut
   cases kq with
   | zero => exact absurd HA.out (by simp [rickyardlaw5_RunsFirst.j0])
   | succ kj6 =>
    have H := HA.out
    clear HA
    simp only [rickyardlaw5_RunsFirst.j0] at H
    by_cases c18 : x72_6 = true
    ·subst c18
     have H1 : (some false) = some r := by rw [if_pos rfl] at H; exact H
     clear H
     have H := H1
     clear H1
     obtain rfl := Option.some.inj H
     go_wp2
     go_ret
     exact ⟨by first | rfl | (simp [errW_none, errW_some] <;> rfl) | (simp [*, errW_none, errW_some] <;> rfl), by repeat (first | (with_reducible first | exact HB.out | apply below_alloc | apply pw_below_drewN | apply below_drew1) | exact HB.out)⟩
    ·replace c18 := Bool.eq_false_iff.mpr c18
     subst c18
     have H1 : (rickyardlaw5_RunsFirst.l0 kj6 t185 (wrap64 (1 + (Int.tmod (wrap64 (a1)) 24))) t188 t190 t191 0) = some r := by rw [if_neg (show ¬ (false = true) by decide)] at H; exact H
     clear H
     have H := H1
     clear H1
     have H' := Aside0.mk H
     clear H
     go_wp2
     go_loopg [12] kj6 (fun kq v12 w' => ∃ (x12_2 : Int), v12 = .int .i64 x12_2 ∧ Aside0 (rickyardlaw5_RunsFirst.l0 kq t185 (wrap64 (1 + (Int.tmod (wrap64 (a1)) 24))) t188 t190 t191 x12_2 = some r) ∧ Aside0 (kq ≤ kj6) ∧ Aside0 (Kd.R k32 32 w' w.heap.size (fun k_ => some k_ ≠ (v193 : Value).ownBlock) (.slice Ao9 t185.length co9) t185) ∧ Aside0 (Kd.R k32 32 w' w.heap.size (fun k_ => some k_ ≠ ((.slice Ao9 t185.length co9) : Value).ownBlock) v193 t190) ∧ Aside0 (Below w.heap.size w w'))
     case atStart => exact ⟨(0), (by first | rfl | (simp; done) | (simp [*]; done)), H', ⟨Nat.le_refl _⟩, ⟨by (with_reducible repeat (first | apply Kd.R_alloc | apply Kd.R_drewN | apply Kd.R_drew)); exact HO_5.out⟩, ⟨by (with_reducible repeat (first | apply Kd.R_alloc | apply Kd.R_drewN | apply Kd.R_drew)); exact HO_9.out⟩, ⟨by repeat (first | (with_reducible first | exact HB.out | apply below_alloc | apply pw_below_drewN | apply below_drew1) | exact HB.out)⟩⟩
     case round =>
      clear H'
      try clear c1
      try clear p1
      try clear q1
      try clear hx1
      try clear p2
      try clear c3
      try clear c6
      try clear p6
      try clear c12
      try clear c12b0
      try clear c12b1
      try clear c13
      try clear c13b0
      try clear c14
      try clear c14b0
      try clear c15
      try clear c15b0
      try clear c16
      try clear c16b0
      try clear c17
      try clear c17b0
      try clear c17b1
      try clear c18
      try clear hx196_0
      try clear hx196_1
      try clear hx197_0
      try clear hx197_1
      try clear p1
      try clear p196
      try clear p197
      try clear p2
      try clear p6
      try clear q1
      try clear q196
      try clear q197
      obtain ⟨x12_2, rfl, HA, HK2, HO_5, HO_9, HB⟩ := hrel
      cases gk with
      | zero => exact absurd HA.out (by simp [rickyardlaw5_RunsFirst.l0])
      | succ k2 =>
       have H := HA.out
       clear HA
       simp only [rickyardlaw5_RunsFirst.l0] at H
       by_cases c19 : x12_2 < t188
       ·rw [if_pos c19] at H
        have c19b0 : decide (x12_2 < t188) = true := decide_eq_true c19
        clear c19
        by_cases c20 : 0 ≤ x12_2
        ·rw [if_pos c20] at H
         have c20b0 : decide (0 ≤ x12_2) = true := decide_eq_true c20
         clear c20
         by_cases c21 : x12_2 < (t185.length : Int)
         ·rw [if_pos c21] at H
          have c21b0 : decide (x12_2 < (t185.length : Int)) = true := decide_eq_true c21
          clear c21
          by_cases c22 : ((rd_T32 t185 x12_2).f1) ≥ (wrap64 (1 + (Int.tmod (wrap64 (a1)) 24)))
          ·rw [if_pos c22] at H
           have c22b0 : decide ((wrap64 (1 + (Int.tmod (wrap64 (a1)) 24))) ≤ ((rd_T32 t185 x12_2).f1)) = true := decide_eq_true c22
           clear c22
           obtain rfl := Option.some.inj H
           have p198 : 0 ≤ (x12_2 : Int) := of_decide_eq_true (by first | (with_reducible assumption) | assumption)
           have q198 : x12_2 < (t185.length : Int) := of_decide_eq_true (by first | (with_reducible assumption) | assumption)
           obtain ⟨ad198, e198, hx198_0, hx198_1⟩ := at_T32 (Kd.R_reads' HO_5.out).2.2 x12_2 p198 q198
           cases e198
           replace p198 := eq_true p198
           replace q198 := eq_true q198
           go_wp2
           go_ret
           exact ⟨by first | rfl | (simp [errW_none, errW_some] <;> rfl) | (simp [*, errW_none, errW_some] <;> rfl), by repeat (first | (with_reducible first | exact HB.out | apply below_alloc | apply pw_below_drewN | apply below_drew1) | exact HB.out)⟩
          ·rw [if_neg c22] at H
           have c22b0 : decide ((wrap64 (1 + (Int.tmod (wrap64 (a1)) 24))) ≤ ((rd_T32 t185 x12_2).f1)) = false := decide_eq_false c22
           clear c22
           have H' := Aside0.mk H
           clear H
           have p198 : 0 ≤ (x12_2 : Int) := of_decide_eq_true (by first | (with_reducible assumption) | assumption)
           have q198 : x12_2 < (t185.length : Int) := of_decide_eq_true (by first | (with_reducible assumption) | assumption)
           obtain ⟨ad198, e198, hx198_0, hx198_1⟩ := at_T32 (Kd.R_reads' HO_5.out).2.2 x12_2 p198 q198
           cases e198
           replace p198 := eq_true p198
           replace q198 := eq_true q198
           go_wp2
           go_roundg k2
           case measure => have := HJ6.out; have := HK2.out; omega
           case rel => exact ⟨(wrap64 (x12_2 + 1)), (by first | rfl | (simp; done) | (simp [*]; done)), H', ⟨by have := HJ6.out; have := HK2.out; omega⟩, ⟨by (with_reducible repeat (first | apply Kd.R_alloc | apply Kd.R_drewN | apply Kd.R_drew)); exact HO_5.out⟩, ⟨by (with_reducible repeat (first | apply Kd.R_alloc | apply Kd.R_drewN | apply Kd.R_drew)); exact HO_9.out⟩, ⟨by repeat (first | (with_reducible first | exact HB.out | apply below_alloc | apply pw_below_drewN | apply below_drew1) | exact HB.out)⟩⟩
         ·rw [if_neg c21] at H
          exact absurd H (by simp)
        ·rw [if_neg c20] at H
         exact absurd H (by simp)
       ·rw [if_neg c19] at H
        have c19b0 : decide (x12_2 < t188) = false := decide_eq_false c19
        clear c19
        by_cases c23 : 0 ≤ t188
        ·rw [if_pos c23] at H
         have c23b0 : decide (0 ≤ t188) = true := decide_eq_true c23
         clear c23
         by_cases c24 : t188 < (t185.length : Int)
         ·rw [if_pos c24] at H
          have c24b0 : decide (t188 < (t185.length : Int)) = true := decide_eq_true c24
          clear c24
          by_cases c25 : ((rd_T32 t185 t188).f1) = (wrap64 (1 + (Int.tmod (wrap64 (a1)) 24)))
          ·rw [if_pos c25] at H
           have c25b0 : (((rd_T32 t185 t188).f1) == (wrap64 (1 + (Int.tmod (wrap64 (a1)) 24)))) = true := beq_iff_eq.mpr c25
           have c25b1 : (((rd_T32 t185 t188).f1) != (wrap64 (1 + (Int.tmod (wrap64 (a1)) 24)))) = false := bne_eq_false_iff_eq.mpr c25
           clear c25
           by_cases c26 : (t190.length : Int) = (wrap64 ((t185.length : Int) - 1))
           ·rw [if_pos c26] at H
            have c26b0 : ((t190.length : Int) == (wrap64 ((t185.length : Int) - 1))) = true := beq_iff_eq.mpr c26
            have c26b1 : ((t190.length : Int) != (wrap64 ((t185.length : Int) - 1))) = false := bne_eq_false_iff_eq.mpr c26
            clear c26
            have c27b0 := eq_true (of_decide_eq_true (by first | (with_reducible assumption) | assumption) : 0 ≤ t188)
            by_cases c28 : t188 ≤ (t190.length : Int)
            ·rw [if_pos c28] at H
             have c28b0 := eq_true c28
             have c28b1 : decide (t188 ≤ (t190.length : Int)) = true := decide_eq_true c28
             clear c28
             obtain ⟨y200, hy200⟩ : ∃ y_ : List (S32), y_ = (t190.take (t188 : Int).toNat) := ⟨_, rfl⟩
             replace H : (if t188 ≤ (t185.length : Int) then ((rickyardref1_SameRuns.f k2 y200 (t185.take (t188 : Int).toNat)).bind fun t208 => (if t208 = true then (if 0 ≤ (wrap64 (t188 + 1)) then (if (wrap64 (t188 + 1)) ≤ (t185.length : Int) then ((rickyardref1_SameRuns.f k2 (t190.drop (t188 : Int).toNat) (t185.drop ((wrap64 (t188 + 1)) : Int).toNat)).bind fun t217 => (if t217 = true then ((rickyardlaw5_awake.f k2).bind fun t218 => (some t218)) else (some false))) else (none)) else (none)) else (some false))) else (none)) = some r := by first | (rw [hy200]; with_reducible exact H) | (have H2_ := (Option.bind_some _ _).symm.trans H; rw [hy200]; with_reducible exact H2_) | (have H2_ := (Option.bind_some _ _).symm.trans H; with_reducible exact H2_) | with_reducible exact H | (rw [hy200]; exact H) | exact H
             have Ny200 := Aside0.mk hy200
             clear hy200
             have c29b0 := eq_true (of_decide_eq_true (by first | (with_reducible assumption) | assumption) : 0 ≤ t188)
             by_cases c30 : t188 ≤ (t185.length : Int)
             ·rw [if_pos c30] at H
              have c30b0 := eq_true c30
              have c30b1 : decide (t188 ≤ (t185.length : Int)) = true := decide_eq_true c30
              clear c30
              obtain ⟨y204, hy204⟩ : ∃ y_ : List (S32), y_ = (t185.take (t188 : Int).toNat) := ⟨_, rfl⟩
              replace H : ((rickyardref1_SameRuns.f k2 y200 y204).bind fun t208 => (if t208 = true then (if 0 ≤ (wrap64 (t188 + 1)) then (if (wrap64 (t188 + 1)) ≤ (t185.length : Int) then ((rickyardref1_SameRuns.f k2 (t190.drop (t188 : Int).toNat) (t185.drop ((wrap64 (t188 + 1)) : Int).toNat)).bind fun t217 => (if t217 = true then ((rickyardlaw5_awake.f k2).bind fun t218 => (some t218)) else (some false))) else (none)) else (none)) else (some false))) = some r := by first | (rw [hy204]; with_reducible exact H) | (have H2_ := (Option.bind_some _ _).symm.trans H; rw [hy204]; with_reducible exact H2_) | (have H2_ := (Option.bind_some _ _).symm.trans H; with_reducible exact H2_) | with_reducible exact H | (rw [hy204]; exact H) | exact H
              have Ny204 := Aside0.mk hy204
              clear hy204
              replace H := Option.bind_eq_some_iff.mp H
              obtain ⟨t208, A310, H⟩ := H
              replace H : (if t208 = true then (if 0 ≤ (wrap64 (t188 + 1)) then (if (wrap64 (t188 + 1)) ≤ (t185.length : Int) then ((rickyardref1_SameRuns.f k2 (t190.drop (t188 : Int).toNat) (t185.drop ((wrap64 (t188 + 1)) : Int).toNat)).bind fun t217 => (if t217 = true then ((rickyardlaw5_awake.f k2).bind fun t218 => (some t218)) else (some false))) else (none)) else (none)) else (some false)) = some r := H
              have A31 := Aside0.mk A310
              clear A310
              by_cases c32 : t208 = true
              ·subst c32
               have H1 : (if 0 ≤ (wrap64 (t188 + 1)) then (if (wrap64 (t188 + 1)) ≤ (t185.length : Int) then ((rickyardref1_SameRuns.f k2 (t190.drop (t188 : Int).toNat) (t185.drop ((wrap64 (t188 + 1)) : Int).toNat)).bind fun t217 => (if t217 = true then ((rickyardlaw5_awake.f k2).bind fun t218 => (some t218)) else (some false))) else (none)) else (none)) = some r := by rw [if_pos rfl] at H; exact H
               clear H
               have H := H1
               clear H1
               have c33b0 := eq_true (of_decide_eq_true (by first | (with_reducible assumption) | assumption) : 0 ≤ t188)
               have c34b0 := eq_true (of_decide_eq_true (by first | (with_reducible assumption) | assumption) : t188 ≤ (t190.length : Int))
               obtain ⟨y209, hy209⟩ : ∃ y_ : List (S32), y_ = (t190.drop (t188 : Int).toNat) := ⟨_, rfl⟩
               replace H : (if 0 ≤ (wrap64 (t188 + 1)) then (if (wrap64 (t188 + 1)) ≤ (t185.length : Int) then ((rickyardref1_SameRuns.f k2 y209 (t185.drop ((wrap64 (t188 + 1)) : Int).toNat)).bind fun t217 => (if t217 = true then ((rickyardlaw5_awake.f k2).bind fun t218 => (some t218)) else (some false))) else (none)) else (none)) = some r := by first | (rw [hy209]; with_reducible exact H) | (have H2_ := (Option.bind_some _ _).symm.trans H; rw [hy209]; with_reducible exact H2_) | (have H2_ := (Option.bind_some _ _).symm.trans H; with_reducible exact H2_) | with_reducible exact H | (rw [hy209]; exact H) | exact H
               have Ny209 := Aside0.mk hy209
               clear hy209
               obtain ⟨ji35, hji35⟩ : ∃ j_ : Int, (wrap64 (t188 + 1)) = j_ := ⟨_, rfl⟩
               replace H : (if 0 ≤ (ji35) then (if (ji35) ≤ (t185.length : Int) then ((rickyardref1_SameRuns.f k2 y209 (t185.drop ((ji35) : Int).toNat)).bind fun t217 => (if t217 = true then ((rickyardlaw5_awake.f k2).bind fun t218 => (some t218)) else (some false))) else (none)) else (none)) = some r := by first | (rw [hji35] at H; exact H) | (simp only [hji35] at H ⊢; exact H)
               (try rw [hji35] at A31)
               have hji35w : (IntKind.i64.wrap (t188 + 1)) = ji35 := (i64_w _).trans hji35
               by_cases c36 : 0 ≤ (ji35)
               ·rw [if_pos c36] at H
                have c36b0 := eq_true c36
                have c36b1 : decide (0 ≤ (ji35)) = true := decide_eq_true c36
                clear c36
                by_cases c37 : (ji35) ≤ (t185.length : Int)
                ·rw [if_pos c37] at H
                 have c37b0 := eq_true c37
                 have c37b1 : decide ((ji35) ≤ (t185.length : Int)) = true := decide_eq_true c37
                 clear c37
                 obtain ⟨y213, hy213⟩ : ∃ y_ : List (S32), y_ = (t185.drop ((ji35) : Int).toNat) := ⟨_, rfl⟩
                 replace H : ((rickyardref1_SameRuns.f k2 y209 y213).bind fun t217 => (if t217 = true then ((rickyardlaw5_awake.f k2).bind fun t218 => (some t218)) else (some false))) = some r := by first | (rw [hy213]; with_reducible exact H) | (have H2_ := (Option.bind_some _ _).symm.trans H; rw [hy213]; with_reducible exact H2_) | (have H2_ := (Option.bind_some _ _).symm.trans H; with_reducible exact H2_) | with_reducible exact H | (rw [hy213]; exact H) | exact H
                 have Ny213 := Aside0.mk hy213
                 clear hy213
                 replace H := Option.bind_eq_some_iff.mp H
                 obtain ⟨t217, A380, H⟩ := H
                 replace H : (if t217 = true then ((rickyardlaw5_awake.f k2).bind fun t218 => (some t218)) else (some false)) = some r := H
                 have A38 := Aside0.mk A380
                 clear A380
                 by_cases c39 : t217 = true
                 ·subst c39
                  have H1 : ((rickyardlaw5_awake.f k2).bind fun t218 => (some t218)) = some r := by rw [if_pos rfl] at H; exact H
                  clear H
                  have H := H1
                  clear H1
                  replace H := Option.bind_eq_some_iff.mp H
                  obtain ⟨t218, A400, H⟩ := H
                  replace H : (some t218) = some r := H
                  have A40 := Aside0.mk A400
                  clear A400
                  obtain rfl := Option.some.inj H
                  have p199 : 0 ≤ (t188 : Int) := of_decide_eq_true (by first | (with_reducible assumption) | assumption)
                  have q199 : t188 < (t185.length : Int) := of_decide_eq_true (by first | (with_reducible assumption) | assumption)
                  obtain ⟨ad199, e199, hx199_0, hx199_1⟩ := at_T32 (Kd.R_reads' HO_5.out).2.2 t188 p199 q199
                  cases e199
                  replace p199 := eq_true p199
                  replace q199 := eq_true q199
                  try go_wp2
                  have n0_ := Aside0.mk (Kd.R_drew HO_5.out)
                  have n1_ := Aside0.mk (Kd.R_drew HO_9.out)
                  have n2_ := Aside0.mk (below_drew1 HB.out)
                  clear HO_5
                  clear HO_9
                  clear HB
                  have HO_5 := n0_
                  have HO_9 := n1_
                  have HB := n2_
                  clear n0_ n1_ n2_
                  obtain ⟨Ao42, co42, eo42⟩ := Kd.R_slice HO_9.out
                  (first | subst eo42 | (injection eo42 with f1_ f2_ f3_; have f4_ := f1_.symm; have f5_ := f3_.symm; clear f1_ f2_ f3_; subst f4_; subst f5_))
                  have q43 : (t188 : Int) ≤ ((t190.length : Int) : Int) := of_decide_eq_true (by first | (with_reducible assumption) | assumption)
                  obtain ⟨i043, hi043, _, hsz43, _⟩ := info_parts info32
                  have hroom43 : t190.length ≤ co42 := (Kd.R_reads' HO_9.out).2.1
                  have hC43 : Kd.C k32 _ Ao42 t190.length t190 := (Kd.R_reads' HO_9.out).2.2
                  have hcut43 := cut_to (P := Try.prog) 23 32 .i64 Try.underlying23 hi043 Ao42 t190.length co42 t188 (of_decide_eq_true (by first | (with_reducible assumption) | assumption)) q43 hroom43
                  have hr43 := Kd.C_take (m := (t188 : Int).toNat) hC43 (by omega)
                  have hy43 : y200.length = (t188 : Int).toNat := (by rw [Ny200.out, List.length_take]; omega)
                  rw [← Ny200.out] at hr43
                  rw [← hy43] at hcut43
                  have HR203 := Aside0.mk hr43
                  have HC203 := Aside0.mk (show y200.length ≤ co42 from by omega)
                  clear hr43 hC43 hroom43 hi043 hsz43
                  have KY43 := Aside0.mk hy43
                  clear hy43
                  have KL43 := Aside0.mk (show (t188 : Int).toNat ≤ t190.length from by omega)
                  replace q43 := eq_true q43
                  have q44 : (t188 : Int) ≤ ((t185.length : Int) : Int) := of_decide_eq_true (by first | (with_reducible assumption) | assumption)
                  obtain ⟨i044, hi044, _, hsz44, _⟩ := info_parts info32
                  have hroom44 : t185.length ≤ co9 := (Kd.R_reads' HO_5.out).2.1
                  have hC44 : Kd.C k32 _ (some ad199) t185.length t185 := (Kd.R_reads' HO_5.out).2.2
                  have hcut44 := cut_to (P := Try.prog) 23 32 .i64 Try.underlying23 hi044 (some ad199) t185.length co9 t188 (of_decide_eq_true (by first | (with_reducible assumption) | assumption)) q44 hroom44
                  have hr44 := Kd.C_take (m := (t188 : Int).toNat) hC44 (by omega)
                  have hy44 : y204.length = (t188 : Int).toNat := (by rw [Ny204.out, List.length_take]; omega)
                  rw [← Ny204.out] at hr44
                  rw [← hy44] at hcut44
                  have HR207 := Aside0.mk hr44
                  have HC207 := Aside0.mk (show y204.length ≤ co9 from by omega)
                  clear hr44 hC44 hroom44 hi044 hsz44
                  have KY44 := Aside0.mk hy44
                  clear hy44
                  have KL44 := Aside0.mk (show (t188 : Int).toNat ≤ t185.length from by omega)
                  replace q44 := eq_true q44
                  refine start_ (n := 29) (S := fun w' => True) (ds := []) (msk 0 29) (by kernel_rfl) rfl rfl trivial (fun hHeld => ?_); refine with_tabW rickyardlaw5_RunsFirst.tab15 rickyardlaw5_RunsFirst.bits15 (fun HT_ HW_ => ?_)
                  generalize wr.drew = w41 at HO_5 HO_9 HB HR203 HR207 hHeld ⊢
                  refine pure_ (i := 0) (N := some 92) (v := ?_) (a' := ?_) (msk 1 28) rfl rfl (any_of HT_.out (by kernel_rfl)) (fun _ _ _ h => h) (Or.inl ⟨by rfl, ?_⟩) ?_ ?_
                  rotate_left
                  ·intro w'; go_simp; with_reducible rfl
                  rotate_left
                  ·simp only [Act.put, List.setIfInBounds_toArray, List.set_cons_zero, List.set_cons_succ, i64_w, i32_w]; rfl
                  refine pure_ (i := 1) (N := some 93) (v := ?_) (a' := ?_) (msk 2 27) rfl rfl (any_of HT_.out (by kernel_rfl)) (fun _ _ _ h => h) (Or.inl ⟨by rfl, ?_⟩) ?_ ?_
                  rotate_left
                  ·intro w'; go_simp; with_reducible rfl
                  rotate_left
                  ·simp only [Act.put, List.setIfInBounds_toArray, List.set_cons_zero, List.set_cons_succ, i64_w, i32_w]; rfl
                  refine pure_ (i := 2) (N := some 94) (v := ?_) (a' := ?_) (msk 3 26) rfl rfl (any_of HT_.out (by kernel_rfl)) (fun _ _ _ h => h) (Or.inl ⟨by rfl, ?_⟩) ?_ ?_
                  rotate_left
                  ·intro w'; go_simp; with_reducible rfl
                  rotate_left
                  ·simp only [Act.put, List.setIfInBounds_toArray, List.set_cons_zero, List.set_cons_succ, i64_w, i32_w]; rfl
                  refine pure_ (i := 3) (N := some 95) (v := ?_) (a' := ?_) (msk 4 25) rfl rfl (any_of HT_.out (by kernel_rfl)) (fun _ _ _ h => h) (Or.inl ⟨by rfl, ?_⟩) ?_ ?_
                  rotate_left
                  ·intro w'; go_simp; with_reducible rfl
                  rotate_left
                  ·simp only [Act.put, List.setIfInBounds_toArray, List.set_cons_zero, List.set_cons_succ, i64_w, i32_w]; rfl
                  refine pure_ (i := 4) (N := some 96) (v := ?_) (a' := ?_) (msk 5 24) rfl rfl (any_of HT_.out (by kernel_rfl)) (fun _ _ _ h => h) (Or.inl ⟨by rfl, ?_⟩) ?_ ?_
                  rotate_left
                  ·intro w'; go_simp; with_reducible rfl
                  rotate_left
                  ·simp only [Act.put, List.setIfInBounds_toArray, List.set_cons_zero, List.set_cons_succ, i64_w, i32_w]; rfl
                  refine pure_ (i := 5) (N := some 97) (v := ?_) (a' := ?_) (msk 6 23) rfl rfl (any_of HT_.out (by kernel_rfl)) (fun _ _ _ h => h) (Or.inl ⟨by rfl, ?_⟩) ?_ ?_
                  rotate_left
                  ·intro w'; go_simp; with_reducible rfl
                  rotate_left
                  ·simp only [Act.put, List.setIfInBounds_toArray, List.set_cons_zero, List.set_cons_succ, i64_w, i32_w]; rfl
                  refine pure_ (i := 6) (N := some 98) (v := ?_) (a' := ?_) (msk 7 22) rfl rfl (any_of HT_.out (by kernel_rfl)) (fun _ _ _ h => h) (Or.inl ⟨by rfl, ?_⟩) ?_ ?_
                  rotate_left
                  ·intro w'; go_simp; with_reducible rfl
                  rotate_left
                  ·simp only [Act.put, List.setIfInBounds_toArray, List.set_cons_zero, List.set_cons_succ, i64_w, i32_w]; rfl
                  refine pure_ (i := 7) (N := some 99) (v := ?_) (a' := ?_) (msk 8 21) rfl rfl (any_of HT_.out (by kernel_rfl)) (fun _ _ _ h => h) (Or.inl ⟨by rfl, ?_⟩) ?_ ?_
                  rotate_left
                  ·intro w'; go_simp; with_reducible rfl
                  rotate_left
                  ·simp only [Act.put, List.setIfInBounds_toArray, List.set_cons_zero, List.set_cons_succ, i64_w, i32_w]; rfl
                  refine pure_ (i := 8) (N := some 100) (v := ?_) (a' := ?_) (msk 9 20) rfl rfl (any_of HT_.out (by kernel_rfl)) (fun _ _ _ h => h) (Or.inl ⟨by rfl, ?_⟩) ?_ ?_
                  rotate_left
                  ·intro w'; go_simp; with_reducible rfl
                  rotate_left
                  ·simp only [Act.put, List.setIfInBounds_toArray, List.set_cons_zero, List.set_cons_succ, i64_w, i32_w]; rfl
                  refine pure_ (i := 9) (N := some 101) (v := ?_) (a' := ?_) (msk 10 19) rfl rfl (any_of HT_.out (by kernel_rfl)) (fun _ _ _ h => h) (Or.inl ⟨by rfl, ?_⟩) ?_ ?_
                  rotate_left
                  ·intro w'; go_simp; with_reducible rfl
                  rotate_left
                  ·simp only [Act.put, List.setIfInBounds_toArray, List.set_cons_zero, List.set_cons_succ, i64_w, i32_w]; rfl
                  refine pure_ (i := 10) (N := some 102) (v := ?_) (a' := ?_) (msk 11 18) rfl rfl (any_of HT_.out (by kernel_rfl)) (fun _ _ _ h => h) (Or.inl ⟨by rfl, ?_⟩) ?_ ?_
                  rotate_left
                  ·intro w'; go_simp; with_reducible rfl
                  rotate_left
                  ·simp only [Act.put, List.setIfInBounds_toArray, List.set_cons_zero, List.set_cons_succ, i64_w, i32_w]; rfl
                  refine pure_ (i := 11) (N := some 103) (v := ?_) (a' := ?_) (msk 12 17) rfl rfl (any_of HT_.out (by kernel_rfl)) (fun _ _ _ h => h) (Or.inl ⟨by rfl, ?_⟩) ?_ ?_
                  rotate_left
                  ·intro w'; go_simp; with_reducible rfl
                  rotate_left
                  ·simp only [Act.put, List.setIfInBounds_toArray, List.set_cons_zero, List.set_cons_succ, i64_w, i32_w]; rfl
                  refine pure_ (i := 12) (N := some 104) (v := ?_) (a' := ?_) (msk 13 16) rfl rfl (any_of HT_.out (by kernel_rfl)) (fun _ _ _ h => h) (Or.inl ⟨by rfl, ?_⟩) ?_ ?_
                  rotate_left
                  ·intro w'; go_simp; with_reducible rfl
                  rotate_left
                  ·simp only [Act.put, List.setIfInBounds_toArray, List.set_cons_zero, List.set_cons_succ, i64_w, i32_w]; rfl
                  refine one_ (i := 13) (N := some 105) (msk 14 15) rfl rfl (one_of HT_.out (by kernel_rfl)) (by decide) (fun K hK => ?_)
                  refine goes_ Try.func17 (by kernel_rfl) rfl #[.slice Ao42 y200.length co42, .slice (some ad199) y204.length co9] (by rfl) rfl rfl (by (try simp only [List.map_toArray, List.map_cons, List.map_nil]); first | done | rfl | (simp only [List.length_drop, List.length_take]; rfl)) ?_
                  with_reducible refine (rickyardref1_SameRuns.calls k2 _ _ y200 _ _ y204 true _ ?side1 ?side2 ?side3 ?side4 A31.out).mono ?_
                  (case side1 => repeat (first | exact (by repeat (first | (with_reducible exact HR203.out) | (with_reducible refine Kd.C_alloc ?_ _) | (with_reducible refine Kd.C_drewN ?_ _) | (with_reducible refine Kd.C_drew ?_) | exact HR203.out)) | (with_reducible refine Kd.C_alloc ?_ _) | (with_reducible refine Kd.C_drewN ?_ _) | (with_reducible refine Kd.C_drew ?_)))
                  (case side2 => exact HC203.out)
                  (case side3 => repeat (first | exact (by repeat (first | (with_reducible exact HR207.out) | (with_reducible refine Kd.C_alloc ?_ _) | (with_reducible refine Kd.C_drewN ?_ _) | (with_reducible refine Kd.C_drew ?_) | exact HR207.out)) | (with_reducible refine Kd.C_alloc ?_ _) | (with_reducible refine Kd.C_drewN ?_ _) | (with_reducible refine Kd.C_drew ?_)))
                  (case side4 => exact HC207.out)
                  rintro e w' ⟨rfl, ⟨nd, rfl⟩⟩
                  refine ⟨_, rfl, ?_⟩
                  have q45 : (t188 : Int) ≤ ((t190.length : Int) : Int) := of_decide_eq_true (by first | (with_reducible assumption) | assumption)
                  obtain ⟨i045, hi045, _, hsz45, _⟩ := info_parts info32
                  have hroom45 : t190.length ≤ co42 := (Kd.R_reads' HO_9.out).2.1
                  have hC45 : Kd.C k32 _ Ao42 t190.length t190 := (Kd.R_reads' HO_9.out).2.2
                  have q045 : (0 : Int) ≤ (t188 : Int) := of_decide_eq_true (by first | (with_reducible assumption) | assumption)
                  have hcut45 := cut_from (P := Try.prog) 23 32 .i64 Try.underlying23 hi045 2 hsz45 Ao42 t190.length co42 t188 q045 q45
                  have hr45 := Kd.C_drop (m := (t188 : Int).toNat) (c := co42) hC45 (by omega) hroom45
                  obtain ⟨A45, hA45⟩ : ∃ A1, A1 = (if co42 = (t188 : Int).toNat then Ao42 else (Ao42 : Option Addr).map (·.add ((t188 : Int).toNat * 2))) := ⟨_, rfl⟩
                  obtain ⟨c45, hc45⟩ : ∃ c1, c1 = co42 - (t188 : Int).toNat := ⟨_, rfl⟩
                  have hy45 : y209.length = t190.length - (t188 : Int).toNat := (by rw [Ny209.out, List.length_drop] <;> omega)
                  rw [show (t190).drop (t188 : Int).toNat = y209 from Ny209.out.symm] at hr45
                  replace hr45 : Kd.C k32 _ A45 y209.length y209 := (by rw [hA45]; exact hr45)
                  rw [← hy45, ← hA45, ← hc45] at hcut45
                  have HR212 := Aside0.mk hr45
                  have HC212 := Aside0.mk (show y209.length ≤ c45 from by rw [hy45, hc45]; exact Nat.sub_le_sub_right hroom45 _)
                  clear hr45 hC45 hroom45 hi045 hsz45 hc45
                  have KY45 := Aside0.mk hy45
                  have KA45 := Aside0.mk hA45
                  clear hy45 hA45
                  have KL45 := Aside0.mk (show (t188 : Int).toNat ≤ t190.length from by omega)
                  replace q45 := eq_true q45
                  have q46 : ((ji35) : Int) ≤ ((t185.length : Int) : Int) := of_decide_eq_true (by first | (with_reducible assumption) | assumption)
                  obtain ⟨i046, hi046, _, hsz46, _⟩ := info_parts info32
                  have hroom46 : t185.length ≤ co9 := (Kd.R_reads' HO_5.out).2.1
                  have hC46 : Kd.C k32 _ (some ad199) t185.length t185 := (Kd.R_reads' HO_5.out).2.2
                  have q046 : (0 : Int) ≤ ((ji35) : Int) := of_decide_eq_true (by first | (with_reducible assumption) | assumption)
                  have hcut46 := cut_from (P := Try.prog) 23 32 .i64 Try.underlying23 hi046 2 hsz46 (some ad199) t185.length co9 (ji35) q046 q46
                  have hr46 := Kd.C_drop (m := ((ji35) : Int).toNat) (c := co9) hC46 (by omega) hroom46
                  obtain ⟨A46, hA46⟩ : ∃ A1, A1 = (if co9 = ((ji35) : Int).toNat then (some ad199) else ((some ad199) : Option Addr).map (·.add (((ji35) : Int).toNat * 2))) := ⟨_, rfl⟩
                  obtain ⟨c46, hc46⟩ : ∃ c1, c1 = co9 - ((ji35) : Int).toNat := ⟨_, rfl⟩
                  have hy46 : y213.length = t185.length - ((ji35) : Int).toNat := (by rw [Ny213.out, List.length_drop] <;> omega)
                  rw [show (t185).drop ((ji35) : Int).toNat = y213 from Ny213.out.symm] at hr46
                  replace hr46 : Kd.C k32 _ A46 y213.length y213 := (by rw [hA46]; exact hr46)
                  rw [← hy46, ← hA46, ← hc46] at hcut46
                  have HR216 := Aside0.mk hr46
                  have HC216 := Aside0.mk (show y213.length ≤ c46 from by rw [hy46, hc46]; exact Nat.sub_le_sub_right hroom46 _)
                  clear hr46 hC46 hroom46 hi046 hsz46 hc46
                  have KY46 := Aside0.mk hy46
                  have KA46 := Aside0.mk hA46
                  clear hy46 hA46
                  have KL46 := Aside0.mk (show ((ji35) : Int).toNat ≤ t185.length from by omega)
                  replace q46 := eq_true q46
                  refine hK.out _ _ trivial (fun hHeld => ?_)
                  clear hK K
                  refine norm_ (a' := ?_) ?_ ?_
                  rotate_left
                  ·show Act.put _ (some 105) _ = _
                   simp only [Act.put, List.setIfInBounds_toArray, List.set_cons_zero, List.set_cons_succ, i64_w, i32_w]; rfl
                  refine pure_ (i := 14) (N := some 106) (v := ?_) (a' := ?_) (msk 15 14) rfl rfl (any_of HT_.out (by kernel_rfl)) (fun _ _ _ h => h) (Or.inl ⟨by rfl, ?_⟩) ?_ ?_
                  rotate_left
                  ·intro w'; go_simp; with_reducible rfl
                  rotate_left
                  ·simp only [Act.put, List.setIfInBounds_toArray, List.set_cons_zero, List.set_cons_succ, i64_w, i32_w]; rfl
                  refine pure_ (i := 15) (N := some 107) (v := ?_) (a' := ?_) (msk 16 13) rfl rfl (any_of HT_.out (by kernel_rfl)) (fun _ _ _ h => h) (Or.inl ⟨by rfl, ?_⟩) ?_ ?_
                  rotate_left
                  ·intro w'; go_simp; with_reducible rfl
                  rotate_left
                  ·simp only [Act.put, List.setIfInBounds_toArray, List.set_cons_zero, List.set_cons_succ, i64_w, i32_w]; rfl
                  refine pure_ (i := 16) (N := some 108) (v := ?_) (a' := ?_) (msk 17 12) rfl rfl (any_of HT_.out (by kernel_rfl)) (fun _ _ _ h => h) (Or.inl ⟨by rfl, ?_⟩) ?_ ?_
                  rotate_left
                  ·intro w'; go_simp; with_reducible rfl
                  rotate_left
                  ·simp only [Act.put, List.setIfInBounds_toArray, List.set_cons_zero, List.set_cons_succ, i64_w, i32_w]; rfl
                  refine pure_ (i := 17) (N := some 109) (v := ?_) (a' := ?_) (msk 18 11) rfl rfl (any_of HT_.out (by kernel_rfl)) (fun _ _ _ h => h) (Or.inl ⟨by rfl, ?_⟩) ?_ ?_
                  rotate_left
                  ·intro w'; go_simp; with_reducible rfl
                  rotate_left
                  ·simp only [Act.put, List.setIfInBounds_toArray, List.set_cons_zero, List.set_cons_succ, i64_w, i32_w]; rfl
                  refine pure_ (i := 18) (N := some 110) (v := ?_) (a' := ?_) (msk 19 10) rfl rfl (any_of HT_.out (by kernel_rfl)) (fun _ _ _ h => h) (Or.inl ⟨by rfl, ?_⟩) ?_ ?_
                  rotate_left
                  ·intro w'; go_simp; with_reducible rfl
                  rotate_left
                  ·simp only [Act.put, List.setIfInBounds_toArray, List.set_cons_zero, List.set_cons_succ, i64_w, i32_w]; rfl
                  refine pure_ (i := 19) (N := some 111) (v := ?_) (a' := ?_) (msk 20 9) rfl rfl (any_of HT_.out (by kernel_rfl)) (fun _ _ _ h => h) (Or.inl ⟨by rfl, ?_⟩) ?_ ?_
                  rotate_left
                  ·intro w'; go_simp; with_reducible rfl
                  rotate_left
                  ·simp only [Act.put, List.setIfInBounds_toArray, List.set_cons_zero, List.set_cons_succ, i64_w, i32_w]; rfl
                  refine pure_ (i := 20) (N := some 112) (v := ?_) (a' := ?_) (msk 21 8) rfl rfl (any_of HT_.out (by kernel_rfl)) (fun _ _ _ h => h) (Or.inl ⟨by rfl, ?_⟩) ?_ ?_
                  rotate_left
                  ·intro w'; go_simp; with_reducible rfl
                  rotate_left
                  ·simp only [Act.put, List.setIfInBounds_toArray, List.set_cons_zero, List.set_cons_succ, i64_w, i32_w]; rfl
                  refine pure_ (i := 21) (N := some 113) (v := ?_) (a' := ?_) (msk 22 7) rfl rfl (any_of HT_.out (by kernel_rfl)) (fun _ _ _ h => h) (Or.inl ⟨by rfl, ?_⟩) ?_ ?_
                  rotate_left
                  ·intro w'; go_simp; with_reducible rfl
                  rotate_left
                  ·simp only [Act.put, List.setIfInBounds_toArray, List.set_cons_zero, List.set_cons_succ, i64_w, i32_w]; rfl
                  refine pure_ (i := 22) (N := some 114) (v := ?_) (a' := ?_) (msk 23 6) rfl rfl (any_of HT_.out (by kernel_rfl)) (fun _ _ _ h => h) (Or.inl ⟨by rfl, ?_⟩) ?_ ?_
                  rotate_left
                  ·intro w'; go_simp; with_reducible rfl
                  rotate_left
                  ·simp only [Act.put, List.setIfInBounds_toArray, List.set_cons_zero, List.set_cons_succ, i64_w, i32_w]; rfl
                  refine one_ (i := 23) (N := some 115) (msk 24 5) rfl rfl (one_of HT_.out (by kernel_rfl)) (by decide) (fun K hK => ?_)
                  refine goes_ Try.func17 (by kernel_rfl) rfl #[.slice A45 y209.length c45, .slice A46 y213.length c46] (by rfl) rfl rfl (by (try simp only [List.map_toArray, List.map_cons, List.map_nil]); first | done | rfl | (simp only [List.length_drop, List.length_take]; rfl)) ?_
                  with_reducible refine (rickyardref1_SameRuns.calls k2 _ _ y209 _ _ y213 true _ ?side1 ?side2 ?side3 ?side4 A38.out).mono ?_
                  (case side1 => repeat (first | exact (by repeat (first | (with_reducible exact HR212.out) | (with_reducible refine Kd.C_alloc ?_ _) | (with_reducible refine Kd.C_drewN ?_ _) | (with_reducible refine Kd.C_drew ?_) | exact HR212.out)) | (with_reducible refine Kd.C_alloc ?_ _) | (with_reducible refine Kd.C_drewN ?_ _) | (with_reducible refine Kd.C_drew ?_)))
                  (case side2 => exact HC212.out)
                  (case side3 => repeat (first | exact (by repeat (first | (with_reducible exact HR216.out) | (with_reducible refine Kd.C_alloc ?_ _) | (with_reducible refine Kd.C_drewN ?_ _) | (with_reducible refine Kd.C_drew ?_) | exact HR216.out)) | (with_reducible refine Kd.C_alloc ?_ _) | (with_reducible refine Kd.C_drewN ?_ _) | (with_reducible refine Kd.C_drew ?_)))
                  (case side4 => exact HC216.out)
                  rintro e w' ⟨rfl, ⟨nd, rfl⟩⟩
                  refine ⟨_, rfl, ?_⟩
                  refine hK.out _ _ trivial (fun hHeld => ?_)
                  clear hK K
                  refine norm_ (a' := ?_) ?_ ?_
                  rotate_left
                  ·show Act.put _ (some 115) _ = _
                   simp only [Act.put, List.setIfInBounds_toArray, List.set_cons_zero, List.set_cons_succ, i64_w, i32_w]; rfl
                  refine pure_ (i := 24) (N := some 116) (v := ?_) (a' := ?_) (msk 25 4) rfl rfl (any_of HT_.out (by kernel_rfl)) (fun _ _ _ h => h) (Or.inl ⟨by rfl, ?_⟩) ?_ ?_
                  rotate_left
                  ·intro w'; go_simp; with_reducible rfl
                  rotate_left
                  ·simp only [Act.put, List.setIfInBounds_toArray, List.set_cons_zero, List.set_cons_succ, i64_w, i32_w]; rfl
                  refine pure_ (i := 25) (N := some 117) (v := ?_) (a' := ?_) (msk 26 3) rfl rfl (any_of HT_.out (by kernel_rfl)) (fun _ _ _ h => h) (Or.inl ⟨by rfl, ?_⟩) ?_ ?_
                  rotate_left
                  ·intro w'; go_simp; with_reducible rfl
                  rotate_left
                  ·simp only [Act.put, List.setIfInBounds_toArray, List.set_cons_zero, List.set_cons_succ, i64_w, i32_w]; rfl
                  refine one_ (i := 26) (N := some 118) (msk 27 2) rfl rfl (one_of HT_.out (by kernel_rfl)) (by decide) (fun K hK => ?_)
                  refine goes_ Try.func16 (by kernel_rfl) rfl #[] (by rfl) rfl rfl (by (try simp only [List.map_toArray, List.map_cons, List.map_nil]); first | done | rfl | (simp only [List.length_drop, List.length_take]; rfl)) ?_
                  with_reducible refine (rickyardlaw5_awake.calls k2  t218 _ A40.out).mono ?_
                  rintro e w47 ⟨rfl, hb⟩
                  refine ⟨_, rfl, ?_⟩
                  have n0_ := Aside0.mk (Kd.R_below (by (with_reducible repeat (first | apply Kd.R_alloc | apply Kd.R_drewN | apply Kd.R_drew)); exact HO_5.out) hb)
                  have n1_ := Aside0.mk (Kd.R_below (by (with_reducible repeat (first | apply Kd.R_alloc | apply Kd.R_drewN | apply Kd.R_drew)); exact HO_9.out) hb)
                  have n2_ := Aside0.mk (Kd.C_below (by repeat (first | (with_reducible exact HR203.out) | (with_reducible refine Kd.C_alloc ?_ _) | (with_reducible refine Kd.C_drewN ?_ _) | (with_reducible refine Kd.C_drew ?_) | exact HR203.out)) hb)
                  have n3_ := Aside0.mk (Kd.C_below (by repeat (first | (with_reducible exact HR207.out) | (with_reducible refine Kd.C_alloc ?_ _) | (with_reducible refine Kd.C_drewN ?_ _) | (with_reducible refine Kd.C_drew ?_) | exact HR207.out)) hb)
                  have n4_ := Aside0.mk (Kd.C_below (by repeat (first | (with_reducible exact HR212.out) | (with_reducible refine Kd.C_alloc ?_ _) | (with_reducible refine Kd.C_drewN ?_ _) | (with_reducible refine Kd.C_drew ?_) | exact HR212.out)) hb)
                  have n5_ := Aside0.mk (Kd.C_below (by repeat (first | (with_reducible exact HR216.out) | (with_reducible refine Kd.C_alloc ?_ _) | (with_reducible refine Kd.C_drewN ?_ _) | (with_reducible refine Kd.C_drew ?_) | exact HR216.out)) hb)
                  have n6_ := Aside0.mk (below_step (by repeat (first | (with_reducible first | exact HB.out | apply below_alloc | apply pw_below_drewN | apply below_drew1) | exact HB.out)) hb)
                  clear HO_5
                  clear HO_9
                  clear HR203
                  clear HR207
                  clear HR212
                  clear HR216
                  clear HB
                  have HO_5 := n0_
                  have HO_9 := n1_
                  have HR203 := n2_
                  have HR207 := n3_
                  have HR212 := n4_
                  have HR216 := n5_
                  have HB := n6_
                  clear n0_ n1_ n2_ n3_ n4_ n5_ n6_
                  (try clear hb)
                  (try clear hb2)
                  (try clear hk)
                  (try clear hi)
                  refine hK.out _ _ trivial (fun hHeld => ?_)
                  clear hK K
                  refine norm_ (a' := ?_) ?_ ?_
                  rotate_left
                  ·show Act.put _ (some 118) _ = _
                   simp only [Act.put, List.setIfInBounds_toArray, List.set_cons_zero, List.set_cons_succ, i64_w, i32_w]; rfl
                  refine pure_ (i := 27) (N := some 119) (v := ?_) (a' := ?_) (msk 28 1) rfl rfl (any_of HT_.out (by kernel_rfl)) (fun _ _ _ h => h) (Or.inl ⟨by rfl, ?_⟩) ?_ ?_
                  rotate_left
                  ·intro w'; go_simp; with_reducible rfl
                  rotate_left
                  ·simp only [Act.put, List.setIfInBounds_toArray, List.set_cons_zero, List.set_cons_succ, i64_w, i32_w]; rfl
                  refine pure_ (i := 28) (N := some 4) (v := ?_) (a' := ?_) (msk 29 0) rfl rfl (any_of HT_.out (by kernel_rfl)) (fun _ _ _ h => h) (Or.inl ⟨by rfl, ?_⟩) ?_ ?_
                  rotate_left
                  ·intro w'; go_simp; with_reducible rfl
                  rotate_left
                  ·simp only [Act.put, List.setIfInBounds_toArray, List.set_cons_zero, List.set_cons_succ, i64_w, i32_w]; rfl
                  refine done_ (done_of HT_.out (by kernel_rfl)) ?_
                  try go_wp2
                  go_ret
                  exact ⟨by first | rfl | (simp [errW_none, errW_some] <;> rfl) | (simp only [← hji35]; first | rfl | (simp [errW_none, errW_some] <;> rfl)) | (simp [*, errW_none, errW_some] <;> rfl), by repeat (first | (with_reducible first | exact HB.out | apply below_alloc | apply pw_below_drewN | apply below_drew1) | exact HB.out)⟩
                 ·replace c39 := Bool.eq_false_iff.mpr c39
                  subst c39
                  have H1 : (some false) = some r := by rw [if_neg (show ¬ (false = true) by decide)] at H; exact H
                  clear H
                  have H := H1
                  clear H1
                  obtain rfl := Option.some.inj H
                  have p199 : 0 ≤ (t188 : Int) := of_decide_eq_true (by first | (with_reducible assumption) | assumption)
                  have q199 : t188 < (t185.length : Int) := of_decide_eq_true (by first | (with_reducible assumption) | assumption)
                  obtain ⟨ad199, e199, hx199_0, hx199_1⟩ := at_T32 (Kd.R_reads' HO_5.out).2.2 t188 p199 q199
                  cases e199
                  replace p199 := eq_true p199
                  replace q199 := eq_true q199
                  try go_wp2
                  have n0_ := Aside0.mk (Kd.R_drew HO_5.out)
                  have n1_ := Aside0.mk (Kd.R_drew HO_9.out)
                  have n2_ := Aside0.mk (below_drew1 HB.out)
                  clear HO_5
                  clear HO_9
                  clear HB
                  have HO_5 := n0_
                  have HO_9 := n1_
                  have HB := n2_
                  clear n0_ n1_ n2_
                  obtain ⟨Ao49, co49, eo49⟩ := Kd.R_slice HO_9.out
                  (first | subst eo49 | (injection eo49 with f1_ f2_ f3_; have f4_ := f1_.symm; have f5_ := f3_.symm; clear f1_ f2_ f3_; subst f4_; subst f5_))
                  have q50 : (t188 : Int) ≤ ((t190.length : Int) : Int) := of_decide_eq_true (by first | (with_reducible assumption) | assumption)
                  obtain ⟨i050, hi050, _, hsz50, _⟩ := info_parts info32
                  have hroom50 : t190.length ≤ co49 := (Kd.R_reads' HO_9.out).2.1
                  have hC50 : Kd.C k32 _ Ao49 t190.length t190 := (Kd.R_reads' HO_9.out).2.2
                  have hcut50 := cut_to (P := Try.prog) 23 32 .i64 Try.underlying23 hi050 Ao49 t190.length co49 t188 (of_decide_eq_true (by first | (with_reducible assumption) | assumption)) q50 hroom50
                  have hr50 := Kd.C_take (m := (t188 : Int).toNat) hC50 (by omega)
                  have hy50 : y200.length = (t188 : Int).toNat := (by rw [Ny200.out, List.length_take]; omega)
                  rw [← Ny200.out] at hr50
                  rw [← hy50] at hcut50
                  have HR203 := Aside0.mk hr50
                  have HC203 := Aside0.mk (show y200.length ≤ co49 from by omega)
                  clear hr50 hC50 hroom50 hi050 hsz50
                  have KY50 := Aside0.mk hy50
                  clear hy50
                  have KL50 := Aside0.mk (show (t188 : Int).toNat ≤ t190.length from by omega)
                  replace q50 := eq_true q50
                  have q51 : (t188 : Int) ≤ ((t185.length : Int) : Int) := of_decide_eq_true (by first | (with_reducible assumption) | assumption)
                  obtain ⟨i051, hi051, _, hsz51, _⟩ := info_parts info32
                  have hroom51 : t185.length ≤ co9 := (Kd.R_reads' HO_5.out).2.1
                  have hC51 : Kd.C k32 _ (some ad199) t185.length t185 := (Kd.R_reads' HO_5.out).2.2
                  have hcut51 := cut_to (P := Try.prog) 23 32 .i64 Try.underlying23 hi051 (some ad199) t185.length co9 t188 (of_decide_eq_true (by first | (with_reducible assumption) | assumption)) q51 hroom51
                  have hr51 := Kd.C_take (m := (t188 : Int).toNat) hC51 (by omega)
                  have hy51 : y204.length = (t188 : Int).toNat := (by rw [Ny204.out, List.length_take]; omega)
                  rw [← Ny204.out] at hr51
                  rw [← hy51] at hcut51
                  have HR207 := Aside0.mk hr51
                  have HC207 := Aside0.mk (show y204.length ≤ co9 from by omega)
                  clear hr51 hC51 hroom51 hi051 hsz51
                  have KY51 := Aside0.mk hy51
                  clear hy51
                  have KL51 := Aside0.mk (show (t188 : Int).toNat ≤ t185.length from by omega)
                  replace q51 := eq_true q51
                  refine start_ (n := 29) (S := fun w' => True) (ds := []) (msk 0 29) (by kernel_rfl) rfl rfl trivial (fun hHeld => ?_); refine with_tabW rickyardlaw5_RunsFirst.tab15 rickyardlaw5_RunsFirst.bits15 (fun HT_ HW_ => ?_)
                  generalize wr.drew = w48 at HO_5 HO_9 HB HR203 HR207 hHeld ⊢
                  refine pure_ (i := 0) (N := some 92) (v := ?_) (a' := ?_) (msk 1 28) rfl rfl (any_of HT_.out (by kernel_rfl)) (fun _ _ _ h => h) (Or.inl ⟨by rfl, ?_⟩) ?_ ?_
                  rotate_left
                  ·intro w'; go_simp; with_reducible rfl
                  rotate_left
                  ·simp only [Act.put, List.setIfInBounds_toArray, List.set_cons_zero, List.set_cons_succ, i64_w, i32_w]; rfl
                  refine pure_ (i := 1) (N := some 93) (v := ?_) (a' := ?_) (msk 2 27) rfl rfl (any_of HT_.out (by kernel_rfl)) (fun _ _ _ h => h) (Or.inl ⟨by rfl, ?_⟩) ?_ ?_
                  rotate_left
                  ·intro w'; go_simp; with_reducible rfl
                  rotate_left
                  ·simp only [Act.put, List.setIfInBounds_toArray, List.set_cons_zero, List.set_cons_succ, i64_w, i32_w]; rfl
                  refine pure_ (i := 2) (N := some 94) (v := ?_) (a' := ?_) (msk 3 26) rfl rfl (any_of HT_.out (by kernel_rfl)) (fun _ _ _ h => h) (Or.inl ⟨by rfl, ?_⟩) ?_ ?_
                  rotate_left
                  ·intro w'; go_simp; with_reducible rfl
                  rotate_left
                  ·simp only [Act.put, List.setIfInBounds_toArray, List.set_cons_zero, List.set_cons_succ, i64_w, i32_w]; rfl
                  refine pure_ (i := 3) (N := some 95) (v := ?_) (a' := ?_) (msk 4 25) rfl rfl (any_of HT_.out (by kernel_rfl)) (fun _ _ _ h => h) (Or.inl ⟨by rfl, ?_⟩) ?_ ?_
                  rotate_left
                  ·intro w'; go_simp; with_reducible rfl
                  rotate_left
                  ·simp only [Act.put, List.setIfInBounds_toArray, List.set_cons_zero, List.set_cons_succ, i64_w, i32_w]; rfl
                  refine pure_ (i := 4) (N := some 96) (v := ?_) (a' := ?_) (msk 5 24) rfl rfl (any_of HT_.out (by kernel_rfl)) (fun _ _ _ h => h) (Or.inl ⟨by rfl, ?_⟩) ?_ ?_
                  rotate_left
                  ·intro w'; go_simp; with_reducible rfl
                  rotate_left
                  ·simp only [Act.put, List.setIfInBounds_toArray, List.set_cons_zero, List.set_cons_succ, i64_w, i32_w]; rfl
                  refine pure_ (i := 5) (N := some 97) (v := ?_) (a' := ?_) (msk 6 23) rfl rfl (any_of HT_.out (by kernel_rfl)) (fun _ _ _ h => h) (Or.inl ⟨by rfl, ?_⟩) ?_ ?_
                  rotate_left
                  ·intro w'; go_simp; with_reducible rfl
                  rotate_left
                  ·simp only [Act.put, List.setIfInBounds_toArray, List.set_cons_zero, List.set_cons_succ, i64_w, i32_w]; rfl
                  refine pure_ (i := 6) (N := some 98) (v := ?_) (a' := ?_) (msk 7 22) rfl rfl (any_of HT_.out (by kernel_rfl)) (fun _ _ _ h => h) (Or.inl ⟨by rfl, ?_⟩) ?_ ?_
                  rotate_left
                  ·intro w'; go_simp; with_reducible rfl
                  rotate_left
                  ·simp only [Act.put, List.setIfInBounds_toArray, List.set_cons_zero, List.set_cons_succ, i64_w, i32_w]; rfl
                  refine pure_ (i := 7) (N := some 99) (v := ?_) (a' := ?_) (msk 8 21) rfl rfl (any_of HT_.out (by kernel_rfl)) (fun _ _ _ h => h) (Or.inl ⟨by rfl, ?_⟩) ?_ ?_
                  rotate_left
                  ·intro w'; go_simp; with_reducible rfl
                  rotate_left
                  ·simp only [Act.put, List.setIfInBounds_toArray, List.set_cons_zero, List.set_cons_succ, i64_w, i32_w]; rfl
                  refine pure_ (i := 8) (N := some 100) (v := ?_) (a' := ?_) (msk 9 20) rfl rfl (any_of HT_.out (by kernel_rfl)) (fun _ _ _ h => h) (Or.inl ⟨by rfl, ?_⟩) ?_ ?_
                  rotate_left
                  ·intro w'; go_simp; with_reducible rfl
                  rotate_left
                  ·simp only [Act.put, List.setIfInBounds_toArray, List.set_cons_zero, List.set_cons_succ, i64_w, i32_w]; rfl
                  refine pure_ (i := 9) (N := some 101) (v := ?_) (a' := ?_) (msk 10 19) rfl rfl (any_of HT_.out (by kernel_rfl)) (fun _ _ _ h => h) (Or.inl ⟨by rfl, ?_⟩) ?_ ?_
                  rotate_left
                  ·intro w'; go_simp; with_reducible rfl
                  rotate_left
                  ·simp only [Act.put, List.setIfInBounds_toArray, List.set_cons_zero, List.set_cons_succ, i64_w, i32_w]; rfl
                  refine pure_ (i := 10) (N := some 102) (v := ?_) (a' := ?_) (msk 11 18) rfl rfl (any_of HT_.out (by kernel_rfl)) (fun _ _ _ h => h) (Or.inl ⟨by rfl, ?_⟩) ?_ ?_
                  rotate_left
                  ·intro w'; go_simp; with_reducible rfl
                  rotate_left
                  ·simp only [Act.put, List.setIfInBounds_toArray, List.set_cons_zero, List.set_cons_succ, i64_w, i32_w]; rfl
                  refine pure_ (i := 11) (N := some 103) (v := ?_) (a' := ?_) (msk 12 17) rfl rfl (any_of HT_.out (by kernel_rfl)) (fun _ _ _ h => h) (Or.inl ⟨by rfl, ?_⟩) ?_ ?_
                  rotate_left
                  ·intro w'; go_simp; with_reducible rfl
                  rotate_left
                  ·simp only [Act.put, List.setIfInBounds_toArray, List.set_cons_zero, List.set_cons_succ, i64_w, i32_w]; rfl
                  refine pure_ (i := 12) (N := some 104) (v := ?_) (a' := ?_) (msk 13 16) rfl rfl (any_of HT_.out (by kernel_rfl)) (fun _ _ _ h => h) (Or.inl ⟨by rfl, ?_⟩) ?_ ?_
                  rotate_left
                  ·intro w'; go_simp; with_reducible rfl
                  rotate_left
                  ·simp only [Act.put, List.setIfInBounds_toArray, List.set_cons_zero, List.set_cons_succ, i64_w, i32_w]; rfl
                  refine one_ (i := 13) (N := some 105) (msk 14 15) rfl rfl (one_of HT_.out (by kernel_rfl)) (by decide) (fun K hK => ?_)
                  refine goes_ Try.func17 (by kernel_rfl) rfl #[.slice Ao49 y200.length co49, .slice (some ad199) y204.length co9] (by rfl) rfl rfl (by (try simp only [List.map_toArray, List.map_cons, List.map_nil]); first | done | rfl | (simp only [List.length_drop, List.length_take]; rfl)) ?_
                  with_reducible refine (rickyardref1_SameRuns.calls k2 _ _ y200 _ _ y204 true _ ?side1 ?side2 ?side3 ?side4 A31.out).mono ?_
                  (case side1 => repeat (first | exact (by repeat (first | (with_reducible exact HR203.out) | (with_reducible refine Kd.C_alloc ?_ _) | (with_reducible refine Kd.C_drewN ?_ _) | (with_reducible refine Kd.C_drew ?_) | exact HR203.out)) | (with_reducible refine Kd.C_alloc ?_ _) | (with_reducible refine Kd.C_drewN ?_ _) | (with_reducible refine Kd.C_drew ?_)))
                  (case side2 => exact HC203.out)
                  (case side3 => repeat (first | exact (by repeat (first | (with_reducible exact HR207.out) | (with_reducible refine Kd.C_alloc ?_ _) | (with_reducible refine Kd.C_drewN ?_ _) | (with_reducible refine Kd.C_drew ?_) | exact HR207.out)) | (with_reducible refine Kd.C_alloc ?_ _) | (with_reducible refine Kd.C_drewN ?_ _) | (with_reducible refine Kd.C_drew ?_)))
                  (case side4 => exact HC207.out)
                  rintro e w' ⟨rfl, ⟨nd, rfl⟩⟩
                  refine ⟨_, rfl, ?_⟩
                  have q52 : (t188 : Int) ≤ ((t190.length : Int) : Int) := of_decide_eq_true (by first | (with_reducible assumption) | assumption)
                  obtain ⟨i052, hi052, _, hsz52, _⟩ := info_parts info32
                  have hroom52 : t190.length ≤ co49 := (Kd.R_reads' HO_9.out).2.1
                  have hC52 : Kd.C k32 _ Ao49 t190.length t190 := (Kd.R_reads' HO_9.out).2.2
                  have q052 : (0 : Int) ≤ (t188 : Int) := of_decide_eq_true (by first | (with_reducible assumption) | assumption)
                  have hcut52 := cut_from (P := Try.prog) 23 32 .i64 Try.underlying23 hi052 2 hsz52 Ao49 t190.length co49 t188 q052 q52
                  have hr52 := Kd.C_drop (m := (t188 : Int).toNat) (c := co49) hC52 (by omega) hroom52
                  obtain ⟨A52, hA52⟩ : ∃ A1, A1 = (if co49 = (t188 : Int).toNat then Ao49 else (Ao49 : Option Addr).map (·.add ((t188 : Int).toNat * 2))) := ⟨_, rfl⟩
                  obtain ⟨c52, hc52⟩ : ∃ c1, c1 = co49 - (t188 : Int).toNat := ⟨_, rfl⟩
                  have hy52 : y209.length = t190.length - (t188 : Int).toNat := (by rw [Ny209.out, List.length_drop] <;> omega)
                  rw [show (t190).drop (t188 : Int).toNat = y209 from Ny209.out.symm] at hr52
                  replace hr52 : Kd.C k32 _ A52 y209.length y209 := (by rw [hA52]; exact hr52)
                  rw [← hy52, ← hA52, ← hc52] at hcut52
                  have HR212 := Aside0.mk hr52
                  have HC212 := Aside0.mk (show y209.length ≤ c52 from by rw [hy52, hc52]; exact Nat.sub_le_sub_right hroom52 _)
                  clear hr52 hC52 hroom52 hi052 hsz52 hc52
                  have KY52 := Aside0.mk hy52
                  have KA52 := Aside0.mk hA52
                  clear hy52 hA52
                  have KL52 := Aside0.mk (show (t188 : Int).toNat ≤ t190.length from by omega)
                  replace q52 := eq_true q52
                  have q53 : ((ji35) : Int) ≤ ((t185.length : Int) : Int) := of_decide_eq_true (by first | (with_reducible assumption) | assumption)
                  obtain ⟨i053, hi053, _, hsz53, _⟩ := info_parts info32
                  have hroom53 : t185.length ≤ co9 := (Kd.R_reads' HO_5.out).2.1
                  have hC53 : Kd.C k32 _ (some ad199) t185.length t185 := (Kd.R_reads' HO_5.out).2.2
                  have q053 : (0 : Int) ≤ ((ji35) : Int) := of_decide_eq_true (by first | (with_reducible assumption) | assumption)
                  have hcut53 := cut_from (P := Try.prog) 23 32 .i64 Try.underlying23 hi053 2 hsz53 (some ad199) t185.length co9 (ji35) q053 q53
                  have hr53 := Kd.C_drop (m := ((ji35) : Int).toNat) (c := co9) hC53 (by omega) hroom53
                  obtain ⟨A53, hA53⟩ : ∃ A1, A1 = (if co9 = ((ji35) : Int).toNat then (some ad199) else ((some ad199) : Option Addr).map (·.add (((ji35) : Int).toNat * 2))) := ⟨_, rfl⟩
                  obtain ⟨c53, hc53⟩ : ∃ c1, c1 = co9 - ((ji35) : Int).toNat := ⟨_, rfl⟩
                  have hy53 : y213.length = t185.length - ((ji35) : Int).toNat := (by rw [Ny213.out, List.length_drop] <;> omega)
                  rw [show (t185).drop ((ji35) : Int).toNat = y213 from Ny213.out.symm] at hr53
                  replace hr53 : Kd.C k32 _ A53 y213.length y213 := (by rw [hA53]; exact hr53)
                  rw [← hy53, ← hA53, ← hc53] at hcut53
                  have HR216 := Aside0.mk hr53
                  have HC216 := Aside0.mk (show y213.length ≤ c53 from by rw [hy53, hc53]; exact Nat.sub_le_sub_right hroom53 _)
                  clear hr53 hC53 hroom53 hi053 hsz53 hc53
                  have KY53 := Aside0.mk hy53
                  have KA53 := Aside0.mk hA53
                  clear hy53 hA53
                  have KL53 := Aside0.mk (show ((ji35) : Int).toNat ≤ t185.length from by omega)
                  replace q53 := eq_true q53
                  refine hK.out _ _ trivial (fun hHeld => ?_)
                  clear hK K
                  refine norm_ (a' := ?_) ?_ ?_
                  rotate_left
                  ·show Act.put _ (some 105) _ = _
                   simp only [Act.put, List.setIfInBounds_toArray, List.set_cons_zero, List.set_cons_succ, i64_w, i32_w]; rfl
                  refine pure_ (i := 14) (N := some 106) (v := ?_) (a' := ?_) (msk 15 14) rfl rfl (any_of HT_.out (by kernel_rfl)) (fun _ _ _ h => h) (Or.inl ⟨by rfl, ?_⟩) ?_ ?_
                  rotate_left
                  ·intro w'; go_simp; with_reducible rfl
                  rotate_left
                  ·simp only [Act.put, List.setIfInBounds_toArray, List.set_cons_zero, List.set_cons_succ, i64_w, i32_w]; rfl
                  refine pure_ (i := 15) (N := some 107) (v := ?_) (a' := ?_) (msk 16 13) rfl rfl (any_of HT_.out (by kernel_rfl)) (fun _ _ _ h => h) (Or.inl ⟨by rfl, ?_⟩) ?_ ?_
                  rotate_left
                  ·intro w'; go_simp; with_reducible rfl
                  rotate_left
                  ·simp only [Act.put, List.setIfInBounds_toArray, List.set_cons_zero, List.set_cons_succ, i64_w, i32_w]; rfl
                  refine pure_ (i := 16) (N := some 108) (v := ?_) (a' := ?_) (msk 17 12) rfl rfl (any_of HT_.out (by kernel_rfl)) (fun _ _ _ h => h) (Or.inl ⟨by rfl, ?_⟩) ?_ ?_
                  rotate_left
                  ·intro w'; go_simp; with_reducible rfl
                  rotate_left
                  ·simp only [Act.put, List.setIfInBounds_toArray, List.set_cons_zero, List.set_cons_succ, i64_w, i32_w]; rfl
                  refine pure_ (i := 17) (N := some 109) (v := ?_) (a' := ?_) (msk 18 11) rfl rfl (any_of HT_.out (by kernel_rfl)) (fun _ _ _ h => h) (Or.inl ⟨by rfl, ?_⟩) ?_ ?_
                  rotate_left
                  ·intro w'; go_simp; with_reducible rfl
                  rotate_left
                  ·simp only [Act.put, List.setIfInBounds_toArray, List.set_cons_zero, List.set_cons_succ, i64_w, i32_w]; rfl
                  refine pure_ (i := 18) (N := some 110) (v := ?_) (a' := ?_) (msk 19 10) rfl rfl (any_of HT_.out (by kernel_rfl)) (fun _ _ _ h => h) (Or.inl ⟨by rfl, ?_⟩) ?_ ?_
                  rotate_left
                  ·intro w'; go_simp; with_reducible rfl
                  rotate_left
                  ·simp only [Act.put, List.setIfInBounds_toArray, List.set_cons_zero, List.set_cons_succ, i64_w, i32_w]; rfl
                  refine pure_ (i := 19) (N := some 111) (v := ?_) (a' := ?_) (msk 20 9) rfl rfl (any_of HT_.out (by kernel_rfl)) (fun _ _ _ h => h) (Or.inl ⟨by rfl, ?_⟩) ?_ ?_
                  rotate_left
                  ·intro w'; go_simp; with_reducible rfl
                  rotate_left
                  ·simp only [Act.put, List.setIfInBounds_toArray, List.set_cons_zero, List.set_cons_succ, i64_w, i32_w]; rfl
                  refine pure_ (i := 20) (N := some 112) (v := ?_) (a' := ?_) (msk 21 8) rfl rfl (any_of HT_.out (by kernel_rfl)) (fun _ _ _ h => h) (Or.inl ⟨by rfl, ?_⟩) ?_ ?_
                  rotate_left
                  ·intro w'; go_simp; with_reducible rfl
                  rotate_left
                  ·simp only [Act.put, List.setIfInBounds_toArray, List.set_cons_zero, List.set_cons_succ, i64_w, i32_w]; rfl
                  refine pure_ (i := 21) (N := some 113) (v := ?_) (a' := ?_) (msk 22 7) rfl rfl (any_of HT_.out (by kernel_rfl)) (fun _ _ _ h => h) (Or.inl ⟨by rfl, ?_⟩) ?_ ?_
                  rotate_left
                  ·intro w'; go_simp; with_reducible rfl
                  rotate_left
                  ·simp only [Act.put, List.setIfInBounds_toArray, List.set_cons_zero, List.set_cons_succ, i64_w, i32_w]; rfl
                  refine pure_ (i := 22) (N := some 114) (v := ?_) (a' := ?_) (msk 23 6) rfl rfl (any_of HT_.out (by kernel_rfl)) (fun _ _ _ h => h) (Or.inl ⟨by rfl, ?_⟩) ?_ ?_
                  rotate_left
                  ·intro w'; go_simp; with_reducible rfl
                  rotate_left
                  ·simp only [Act.put, List.setIfInBounds_toArray, List.set_cons_zero, List.set_cons_succ, i64_w, i32_w]; rfl
                  refine one_ (i := 23) (N := some 115) (msk 24 5) rfl rfl (one_of HT_.out (by kernel_rfl)) (by decide) (fun K hK => ?_)
                  refine goes_ Try.func17 (by kernel_rfl) rfl #[.slice A52 y209.length c52, .slice A53 y213.length c53] (by rfl) rfl rfl (by (try simp only [List.map_toArray, List.map_cons, List.map_nil]); first | done | rfl | (simp only [List.length_drop, List.length_take]; rfl)) ?_
                  with_reducible refine (rickyardref1_SameRuns.calls k2 _ _ y209 _ _ y213 false _ ?side1 ?side2 ?side3 ?side4 A38.out).mono ?_
                  (case side1 => repeat (first | exact (by repeat (first | (with_reducible exact HR212.out) | (with_reducible refine Kd.C_alloc ?_ _) | (with_reducible refine Kd.C_drewN ?_ _) | (with_reducible refine Kd.C_drew ?_) | exact HR212.out)) | (with_reducible refine Kd.C_alloc ?_ _) | (with_reducible refine Kd.C_drewN ?_ _) | (with_reducible refine Kd.C_drew ?_)))
                  (case side2 => exact HC212.out)
                  (case side3 => repeat (first | exact (by repeat (first | (with_reducible exact HR216.out) | (with_reducible refine Kd.C_alloc ?_ _) | (with_reducible refine Kd.C_drewN ?_ _) | (with_reducible refine Kd.C_drew ?_) | exact HR216.out)) | (with_reducible refine Kd.C_alloc ?_ _) | (with_reducible refine Kd.C_drewN ?_ _) | (with_reducible refine Kd.C_drew ?_)))
                  (case side4 => exact HC216.out)
                  rintro e w' ⟨rfl, ⟨nd, rfl⟩⟩
                  refine ⟨_, rfl, ?_⟩
                  refine hK.out _ _ trivial (fun hHeld => ?_)
                  clear hK K
                  refine norm_ (a' := ?_) ?_ ?_
                  rotate_left
                  ·show Act.put _ (some 115) _ = _
                   simp only [Act.put, List.setIfInBounds_toArray, List.set_cons_zero, List.set_cons_succ, i64_w, i32_w]; rfl
                  refine pure_ (i := 24) (N := some 116) (v := ?_) (a' := ?_) (msk 25 4) rfl rfl (any_of HT_.out (by kernel_rfl)) (fun _ _ _ h => h) (Or.inl ⟨by rfl, ?_⟩) ?_ ?_
                  rotate_left
                  ·intro w'; go_simp; with_reducible rfl
                  rotate_left
                  ·simp only [Act.put, List.setIfInBounds_toArray, List.set_cons_zero, List.set_cons_succ, i64_w, i32_w]; rfl
                  refine pure_ (i := 25) (N := some 117) (v := ?_) (a' := ?_) (msk 26 3) rfl rfl (any_of HT_.out (by kernel_rfl)) (fun _ _ _ h => h) (Or.inl ⟨by rfl, ?_⟩) ?_ ?_
                  rotate_left
                  ·intro w'; go_simp; with_reducible rfl
                  rotate_left
                  ·simp only [Act.put, List.setIfInBounds_toArray, List.set_cons_zero, List.set_cons_succ, i64_w, i32_w]; rfl
                  refine pure_ (i := 26) (N := some 118) (v := undef) (a' := ?_) (msk 27 2) rfl rfl (any_of HT_.out (by kernel_rfl)) (fun _ _ _ h => h) (Or.inr ⟨by rfl, rfl⟩) ?_ ?_
                  rotate_left
                  ·simp only [Act.put, List.setIfInBounds_toArray, List.set_cons_zero, List.set_cons_succ, i64_w, i32_w]; rfl
                  refine pure_ (i := 27) (N := some 119) (v := ?_) (a' := ?_) (msk 28 1) rfl rfl (any_of HT_.out (by kernel_rfl)) (fun _ _ _ h => h) (Or.inl ⟨by rfl, ?_⟩) ?_ ?_
                  rotate_left
                  ·intro w'; go_simp; with_reducible rfl
                  rotate_left
                  ·simp only [Act.put, List.setIfInBounds_toArray, List.set_cons_zero, List.set_cons_succ, i64_w, i32_w]; rfl
                  refine pure_ (i := 28) (N := some 4) (v := ?_) (a' := ?_) (msk 29 0) rfl rfl (any_of HT_.out (by kernel_rfl)) (fun _ _ _ h => h) (Or.inl ⟨by rfl, ?_⟩) ?_ ?_
                  rotate_left
                  ·intro w'; go_simp; with_reducible rfl
                  rotate_left
                  ·simp only [Act.put, List.setIfInBounds_toArray, List.set_cons_zero, List.set_cons_succ, i64_w, i32_w]; rfl
                  refine done_ (done_of HT_.out (by kernel_rfl)) ?_
                  try go_wp2
                  go_ret
                  exact ⟨by first | rfl | (simp [errW_none, errW_some] <;> rfl) | (simp only [← hji35]; first | rfl | (simp [errW_none, errW_some] <;> rfl)) | (simp [*, errW_none, errW_some] <;> rfl), by repeat (first | (with_reducible first | exact HB.out | apply below_alloc | apply pw_below_drewN | apply below_drew1) | exact HB.out)⟩
                ·rw [if_neg c37] at H
                 exact absurd H (by simp)
               ·rw [if_neg c36] at H
                exact absurd H (by simp)
              ·replace c32 := Bool.eq_false_iff.mpr c32
               subst c32
               have H1 : (some false) = some r := by rw [if_neg (show ¬ (false = true) by decide)] at H; exact H
               clear H
               have H := H1
               clear H1
               obtain rfl := Option.some.inj H
               have p199 : 0 ≤ (t188 : Int) := of_decide_eq_true (by first | (with_reducible assumption) | assumption)
               have q199 : t188 < (t185.length : Int) := of_decide_eq_true (by first | (with_reducible assumption) | assumption)
               obtain ⟨ad199, e199, hx199_0, hx199_1⟩ := at_T32 (Kd.R_reads' HO_5.out).2.2 t188 p199 q199
               cases e199
               replace p199 := eq_true p199
               replace q199 := eq_true q199
               try go_wp2
               have n0_ := Aside0.mk (Kd.R_drew HO_5.out)
               have n1_ := Aside0.mk (Kd.R_drew HO_9.out)
               have n2_ := Aside0.mk (below_drew1 HB.out)
               clear HO_5
               clear HO_9
               clear HB
               have HO_5 := n0_
               have HO_9 := n1_
               have HB := n2_
               clear n0_ n1_ n2_
               obtain ⟨Ao55, co55, eo55⟩ := Kd.R_slice HO_9.out
               (first | subst eo55 | (injection eo55 with f1_ f2_ f3_; have f4_ := f1_.symm; have f5_ := f3_.symm; clear f1_ f2_ f3_; subst f4_; subst f5_))
               have q56 : (t188 : Int) ≤ ((t190.length : Int) : Int) := of_decide_eq_true (by first | (with_reducible assumption) | assumption)
               obtain ⟨i056, hi056, _, hsz56, _⟩ := info_parts info32
               have hroom56 : t190.length ≤ co55 := (Kd.R_reads' HO_9.out).2.1
               have hC56 : Kd.C k32 _ Ao55 t190.length t190 := (Kd.R_reads' HO_9.out).2.2
               have hcut56 := cut_to (P := Try.prog) 23 32 .i64 Try.underlying23 hi056 Ao55 t190.length co55 t188 (of_decide_eq_true (by first | (with_reducible assumption) | assumption)) q56 hroom56
               have hr56 := Kd.C_take (m := (t188 : Int).toNat) hC56 (by omega)
               have hy56 : y200.length = (t188 : Int).toNat := (by rw [Ny200.out, List.length_take]; omega)
               rw [← Ny200.out] at hr56
               rw [← hy56] at hcut56
               have HR203 := Aside0.mk hr56
               have HC203 := Aside0.mk (show y200.length ≤ co55 from by omega)
               clear hr56 hC56 hroom56 hi056 hsz56
               have KY56 := Aside0.mk hy56
               clear hy56
               have KL56 := Aside0.mk (show (t188 : Int).toNat ≤ t190.length from by omega)
               replace q56 := eq_true q56
               have q57 : (t188 : Int) ≤ ((t185.length : Int) : Int) := of_decide_eq_true (by first | (with_reducible assumption) | assumption)
               obtain ⟨i057, hi057, _, hsz57, _⟩ := info_parts info32
               have hroom57 : t185.length ≤ co9 := (Kd.R_reads' HO_5.out).2.1
               have hC57 : Kd.C k32 _ (some ad199) t185.length t185 := (Kd.R_reads' HO_5.out).2.2
               have hcut57 := cut_to (P := Try.prog) 23 32 .i64 Try.underlying23 hi057 (some ad199) t185.length co9 t188 (of_decide_eq_true (by first | (with_reducible assumption) | assumption)) q57 hroom57
               have hr57 := Kd.C_take (m := (t188 : Int).toNat) hC57 (by omega)
               have hy57 : y204.length = (t188 : Int).toNat := (by rw [Ny204.out, List.length_take]; omega)
               rw [← Ny204.out] at hr57
               rw [← hy57] at hcut57
               have HR207 := Aside0.mk hr57
               have HC207 := Aside0.mk (show y204.length ≤ co9 from by omega)
               clear hr57 hC57 hroom57 hi057 hsz57
               have KY57 := Aside0.mk hy57
               clear hy57
               have KL57 := Aside0.mk (show (t188 : Int).toNat ≤ t185.length from by omega)
               replace q57 := eq_true q57
               refine start_ (n := 29) (S := fun w' => True) (ds := []) (msk 0 29) (by kernel_rfl) rfl rfl trivial (fun hHeld => ?_); refine with_tabW rickyardlaw5_RunsFirst.tab15 rickyardlaw5_RunsFirst.bits15 (fun HT_ HW_ => ?_)
               generalize wr.drew = w54 at HO_5 HO_9 HB HR203 HR207 hHeld ⊢
               refine pure_ (i := 0) (N := some 92) (v := ?_) (a' := ?_) (msk 1 28) rfl rfl (any_of HT_.out (by kernel_rfl)) (fun _ _ _ h => h) (Or.inl ⟨by rfl, ?_⟩) ?_ ?_
               rotate_left
               ·intro w'; go_simp; with_reducible rfl
               rotate_left
               ·simp only [Act.put, List.setIfInBounds_toArray, List.set_cons_zero, List.set_cons_succ, i64_w, i32_w]; rfl
               refine pure_ (i := 1) (N := some 93) (v := ?_) (a' := ?_) (msk 2 27) rfl rfl (any_of HT_.out (by kernel_rfl)) (fun _ _ _ h => h) (Or.inl ⟨by rfl, ?_⟩) ?_ ?_
               rotate_left
               ·intro w'; go_simp; with_reducible rfl
               rotate_left
               ·simp only [Act.put, List.setIfInBounds_toArray, List.set_cons_zero, List.set_cons_succ, i64_w, i32_w]; rfl
               refine pure_ (i := 2) (N := some 94) (v := ?_) (a' := ?_) (msk 3 26) rfl rfl (any_of HT_.out (by kernel_rfl)) (fun _ _ _ h => h) (Or.inl ⟨by rfl, ?_⟩) ?_ ?_
               rotate_left
               ·intro w'; go_simp; with_reducible rfl
               rotate_left
               ·simp only [Act.put, List.setIfInBounds_toArray, List.set_cons_zero, List.set_cons_succ, i64_w, i32_w]; rfl
               refine pure_ (i := 3) (N := some 95) (v := ?_) (a' := ?_) (msk 4 25) rfl rfl (any_of HT_.out (by kernel_rfl)) (fun _ _ _ h => h) (Or.inl ⟨by rfl, ?_⟩) ?_ ?_
               rotate_left
               ·intro w'; go_simp; with_reducible rfl
               rotate_left
               ·simp only [Act.put, List.setIfInBounds_toArray, List.set_cons_zero, List.set_cons_succ, i64_w, i32_w]; rfl
               refine pure_ (i := 4) (N := some 96) (v := ?_) (a' := ?_) (msk 5 24) rfl rfl (any_of HT_.out (by kernel_rfl)) (fun _ _ _ h => h) (Or.inl ⟨by rfl, ?_⟩) ?_ ?_
               rotate_left
               ·intro w'; go_simp; with_reducible rfl
               rotate_left
               ·simp only [Act.put, List.setIfInBounds_toArray, List.set_cons_zero, List.set_cons_succ, i64_w, i32_w]; rfl
               refine pure_ (i := 5) (N := some 97) (v := ?_) (a' := ?_) (msk 6 23) rfl rfl (any_of HT_.out (by kernel_rfl)) (fun _ _ _ h => h) (Or.inl ⟨by rfl, ?_⟩) ?_ ?_
               rotate_left
               ·intro w'; go_simp; with_reducible rfl
               rotate_left
               ·simp only [Act.put, List.setIfInBounds_toArray, List.set_cons_zero, List.set_cons_succ, i64_w, i32_w]; rfl
               refine pure_ (i := 6) (N := some 98) (v := ?_) (a' := ?_) (msk 7 22) rfl rfl (any_of HT_.out (by kernel_rfl)) (fun _ _ _ h => h) (Or.inl ⟨by rfl, ?_⟩) ?_ ?_
               rotate_left
               ·intro w'; go_simp; with_reducible rfl
               rotate_left
               ·simp only [Act.put, List.setIfInBounds_toArray, List.set_cons_zero, List.set_cons_succ, i64_w, i32_w]; rfl
               refine pure_ (i := 7) (N := some 99) (v := ?_) (a' := ?_) (msk 8 21) rfl rfl (any_of HT_.out (by kernel_rfl)) (fun _ _ _ h => h) (Or.inl ⟨by rfl, ?_⟩) ?_ ?_
               rotate_left
               ·intro w'; go_simp; with_reducible rfl
               rotate_left
               ·simp only [Act.put, List.setIfInBounds_toArray, List.set_cons_zero, List.set_cons_succ, i64_w, i32_w]; rfl
               refine pure_ (i := 8) (N := some 100) (v := ?_) (a' := ?_) (msk 9 20) rfl rfl (any_of HT_.out (by kernel_rfl)) (fun _ _ _ h => h) (Or.inl ⟨by rfl, ?_⟩) ?_ ?_
               rotate_left
               ·intro w'; go_simp; with_reducible rfl
               rotate_left
               ·simp only [Act.put, List.setIfInBounds_toArray, List.set_cons_zero, List.set_cons_succ, i64_w, i32_w]; rfl
               refine pure_ (i := 9) (N := some 101) (v := ?_) (a' := ?_) (msk 10 19) rfl rfl (any_of HT_.out (by kernel_rfl)) (fun _ _ _ h => h) (Or.inl ⟨by rfl, ?_⟩) ?_ ?_
               rotate_left
               ·intro w'; go_simp; with_reducible rfl
               rotate_left
               ·simp only [Act.put, List.setIfInBounds_toArray, List.set_cons_zero, List.set_cons_succ, i64_w, i32_w]; rfl
               refine pure_ (i := 10) (N := some 102) (v := ?_) (a' := ?_) (msk 11 18) rfl rfl (any_of HT_.out (by kernel_rfl)) (fun _ _ _ h => h) (Or.inl ⟨by rfl, ?_⟩) ?_ ?_
               rotate_left
               ·intro w'; go_simp; with_reducible rfl
               rotate_left
               ·simp only [Act.put, List.setIfInBounds_toArray, List.set_cons_zero, List.set_cons_succ, i64_w, i32_w]; rfl
               refine pure_ (i := 11) (N := some 103) (v := ?_) (a' := ?_) (msk 12 17) rfl rfl (any_of HT_.out (by kernel_rfl)) (fun _ _ _ h => h) (Or.inl ⟨by rfl, ?_⟩) ?_ ?_
               rotate_left
               ·intro w'; go_simp; with_reducible rfl
               rotate_left
               ·simp only [Act.put, List.setIfInBounds_toArray, List.set_cons_zero, List.set_cons_succ, i64_w, i32_w]; rfl
               refine pure_ (i := 12) (N := some 104) (v := ?_) (a' := ?_) (msk 13 16) rfl rfl (any_of HT_.out (by kernel_rfl)) (fun _ _ _ h => h) (Or.inl ⟨by rfl, ?_⟩) ?_ ?_
               rotate_left
               ·intro w'; go_simp; with_reducible rfl
               rotate_left
               ·simp only [Act.put, List.setIfInBounds_toArray, List.set_cons_zero, List.set_cons_succ, i64_w, i32_w]; rfl
               refine one_ (i := 13) (N := some 105) (msk 14 15) rfl rfl (one_of HT_.out (by kernel_rfl)) (by decide) (fun K hK => ?_)
               refine goes_ Try.func17 (by kernel_rfl) rfl #[.slice Ao55 y200.length co55, .slice (some ad199) y204.length co9] (by rfl) rfl rfl (by (try simp only [List.map_toArray, List.map_cons, List.map_nil]); first | done | rfl | (simp only [List.length_drop, List.length_take]; rfl)) ?_
               with_reducible refine (rickyardref1_SameRuns.calls k2 _ _ y200 _ _ y204 false _ ?side1 ?side2 ?side3 ?side4 A31.out).mono ?_
               (case side1 => repeat (first | exact (by repeat (first | (with_reducible exact HR203.out) | (with_reducible refine Kd.C_alloc ?_ _) | (with_reducible refine Kd.C_drewN ?_ _) | (with_reducible refine Kd.C_drew ?_) | exact HR203.out)) | (with_reducible refine Kd.C_alloc ?_ _) | (with_reducible refine Kd.C_drewN ?_ _) | (with_reducible refine Kd.C_drew ?_)))
               (case side2 => exact HC203.out)
               (case side3 => repeat (first | exact (by repeat (first | (with_reducible exact HR207.out) | (with_reducible refine Kd.C_alloc ?_ _) | (with_reducible refine Kd.C_drewN ?_ _) | (with_reducible refine Kd.C_drew ?_) | exact HR207.out)) | (with_reducible refine Kd.C_alloc ?_ _) | (with_reducible refine Kd.C_drewN ?_ _) | (with_reducible refine Kd.C_drew ?_)))
               (case side4 => exact HC207.out)
               rintro e w' ⟨rfl, ⟨nd, rfl⟩⟩
               refine ⟨_, rfl, ?_⟩
               refine hK.out _ _ trivial (fun hHeld => ?_)
               clear hK K
               refine norm_ (a' := ?_) ?_ ?_
               rotate_left
               ·show Act.put _ (some 105) _ = _
                simp only [Act.put, List.setIfInBounds_toArray, List.set_cons_zero, List.set_cons_succ, i64_w, i32_w]; rfl
               refine pure_ (i := 14) (N := some 106) (v := ?_) (a' := ?_) (msk 15 14) rfl rfl (any_of HT_.out (by kernel_rfl)) (fun _ _ _ h => h) (Or.inl ⟨by rfl, ?_⟩) ?_ ?_
               rotate_left
               ·intro w'; go_simp; with_reducible rfl
               rotate_left
               ·simp only [Act.put, List.setIfInBounds_toArray, List.set_cons_zero, List.set_cons_succ, i64_w, i32_w]; rfl
               refine pure_ (i := 15) (N := some 107) (v := ?_) (a' := ?_) (msk 16 13) rfl rfl (any_of HT_.out (by kernel_rfl)) (fun _ _ _ h => h) (Or.inl ⟨by rfl, ?_⟩) ?_ ?_
               rotate_left
               ·intro w'; go_simp; with_reducible rfl
               rotate_left
               ·simp only [Act.put, List.setIfInBounds_toArray, List.set_cons_zero, List.set_cons_succ, i64_w, i32_w]; rfl
               refine pure_ (i := 16) (N := some 108) (v := undef) (a' := ?_) (msk 17 12) rfl rfl (any_of HT_.out (by kernel_rfl)) (fun _ _ _ h => h) (Or.inr ⟨by rfl, rfl⟩) ?_ ?_
               rotate_left
               ·simp only [Act.put, List.setIfInBounds_toArray, List.set_cons_zero, List.set_cons_succ, i64_w, i32_w]; rfl
               refine pure_ (i := 17) (N := some 109) (v := undef) (a' := ?_) (msk 18 11) rfl rfl (any_of HT_.out (by kernel_rfl)) (fun _ _ _ h => h) (Or.inr ⟨by rfl, rfl⟩) ?_ ?_
               rotate_left
               ·simp only [Act.put, List.setIfInBounds_toArray, List.set_cons_zero, List.set_cons_succ, i64_w, i32_w]; rfl
               refine pure_ (i := 18) (N := some 110) (v := undef) (a' := ?_) (msk 19 10) rfl rfl (any_of HT_.out (by kernel_rfl)) (fun _ _ _ h => h) (Or.inr ⟨by rfl, rfl⟩) ?_ ?_
               rotate_left
               ·simp only [Act.put, List.setIfInBounds_toArray, List.set_cons_zero, List.set_cons_succ, i64_w, i32_w]; rfl
               refine pure_ (i := 19) (N := some 111) (v := undef) (a' := ?_) (msk 20 9) rfl rfl (any_of HT_.out (by kernel_rfl)) (fun _ _ _ h => h) (Or.inr ⟨by rfl, rfl⟩) ?_ ?_
               rotate_left
               ·simp only [Act.put, List.setIfInBounds_toArray, List.set_cons_zero, List.set_cons_succ, i64_w, i32_w]; rfl
               refine pure_ (i := 20) (N := some 112) (v := undef) (a' := ?_) (msk 21 8) rfl rfl (any_of HT_.out (by kernel_rfl)) (fun _ _ _ h => h) (Or.inr ⟨by rfl, rfl⟩) ?_ ?_
               rotate_left
               ·simp only [Act.put, List.setIfInBounds_toArray, List.set_cons_zero, List.set_cons_succ, i64_w, i32_w]; rfl
               refine pure_ (i := 21) (N := some 113) (v := undef) (a' := ?_) (msk 22 7) rfl rfl (any_of HT_.out (by kernel_rfl)) (fun _ _ _ h => h) (Or.inr ⟨by rfl, rfl⟩) ?_ ?_
               rotate_left
               ·simp only [Act.put, List.setIfInBounds_toArray, List.set_cons_zero, List.set_cons_succ, i64_w, i32_w]; rfl
               refine pure_ (i := 22) (N := some 114) (v := undef) (a' := ?_) (msk 23 6) rfl rfl (any_of HT_.out (by kernel_rfl)) (fun _ _ _ h => h) (Or.inr ⟨by rfl, rfl⟩) ?_ ?_
               rotate_left
               ·simp only [Act.put, List.setIfInBounds_toArray, List.set_cons_zero, List.set_cons_succ, i64_w, i32_w]; rfl
               refine pure_ (i := 23) (N := some 115) (v := undef) (a' := ?_) (msk 24 5) rfl rfl (any_of HT_.out (by kernel_rfl)) (fun _ _ _ h => h) (Or.inr ⟨by rfl, rfl⟩) ?_ ?_
               rotate_left
               ·simp only [Act.put, List.setIfInBounds_toArray, List.set_cons_zero, List.set_cons_succ, i64_w, i32_w]; rfl
               refine pure_ (i := 24) (N := some 116) (v := ?_) (a' := ?_) (msk 25 4) rfl rfl (any_of HT_.out (by kernel_rfl)) (fun _ _ _ h => h) (Or.inl ⟨by rfl, ?_⟩) ?_ ?_
               rotate_left
               ·intro w'; go_simp; with_reducible rfl
               rotate_left
               ·simp only [Act.put, List.setIfInBounds_toArray, List.set_cons_zero, List.set_cons_succ, i64_w, i32_w]; rfl
               refine pure_ (i := 25) (N := some 117) (v := ?_) (a' := ?_) (msk 26 3) rfl rfl (any_of HT_.out (by kernel_rfl)) (fun _ _ _ h => h) (Or.inl ⟨by rfl, ?_⟩) ?_ ?_
               rotate_left
               ·intro w'; go_simp; with_reducible rfl
               rotate_left
               ·simp only [Act.put, List.setIfInBounds_toArray, List.set_cons_zero, List.set_cons_succ, i64_w, i32_w]; rfl
               refine pure_ (i := 26) (N := some 118) (v := undef) (a' := ?_) (msk 27 2) rfl rfl (any_of HT_.out (by kernel_rfl)) (fun _ _ _ h => h) (Or.inr ⟨by rfl, rfl⟩) ?_ ?_
               rotate_left
               ·simp only [Act.put, List.setIfInBounds_toArray, List.set_cons_zero, List.set_cons_succ, i64_w, i32_w]; rfl
               refine pure_ (i := 27) (N := some 119) (v := ?_) (a' := ?_) (msk 28 1) rfl rfl (any_of HT_.out (by kernel_rfl)) (fun _ _ _ h => h) (Or.inl ⟨by rfl, ?_⟩) ?_ ?_
               rotate_left
               ·intro w'; go_simp; with_reducible rfl
               rotate_left
               ·simp only [Act.put, List.setIfInBounds_toArray, List.set_cons_zero, List.set_cons_succ, i64_w, i32_w]; rfl
               refine pure_ (i := 28) (N := some 4) (v := ?_) (a' := ?_) (msk 29 0) rfl rfl (any_of HT_.out (by kernel_rfl)) (fun _ _ _ h => h) (Or.inl ⟨by rfl, ?_⟩) ?_ ?_
               rotate_left
               ·intro w'; go_simp; with_reducible rfl
               rotate_left
               ·simp only [Act.put, List.setIfInBounds_toArray, List.set_cons_zero, List.set_cons_succ, i64_w, i32_w]; rfl
               refine done_ (done_of HT_.out (by kernel_rfl)) ?_
               try go_wp2
               go_ret
               exact ⟨by first | rfl | (simp [errW_none, errW_some] <;> rfl) | (simp [*, errW_none, errW_some] <;> rfl), by repeat (first | (with_reducible first | exact HB.out | apply below_alloc | apply pw_below_drewN | apply below_drew1) | exact HB.out)⟩
             ·rw [if_neg c30] at H
              exact absurd H (by simp)
            ·rw [if_neg c28] at H
             exact absurd H (by simp)
           ·rw [if_neg c26] at H
            have c26b0 : ((t190.length : Int) == (wrap64 ((t185.length : Int) - 1))) = false := beq_eq_false_iff_ne.mpr c26
            have c26b1 : ((t190.length : Int) != (wrap64 ((t185.length : Int) - 1))) = true := bne_iff_ne.mpr c26
            obtain rfl := Option.some.inj H
            have p199 : 0 ≤ (t188 : Int) := of_decide_eq_true (by first | (with_reducible assumption) | assumption)
            have q199 : t188 < (t185.length : Int) := of_decide_eq_true (by first | (with_reducible assumption) | assumption)
            obtain ⟨ad199, e199, hx199_0, hx199_1⟩ := at_T32 (Kd.R_reads' HO_5.out).2.2 t188 p199 q199
            cases e199
            replace p199 := eq_true p199
            replace q199 := eq_true q199
            try go_wp2
            have n0_ := Aside0.mk (Kd.R_drew HO_5.out)
            have n1_ := Aside0.mk (Kd.R_drew HO_9.out)
            have n2_ := Aside0.mk (below_drew1 HB.out)
            clear HO_5
            clear HO_9
            clear HB
            have HO_5 := n0_
            have HO_9 := n1_
            have HB := n2_
            clear n0_ n1_ n2_
            obtain ⟨Ao59, co59, eo59⟩ := Kd.R_slice HO_9.out
            (first | subst eo59 | (injection eo59 with f1_ f2_ f3_; have f4_ := f1_.symm; have f5_ := f3_.symm; clear f1_ f2_ f3_; subst f4_; subst f5_))
            refine start_ (n := 29) (S := fun w' => True) (ds := []) (msk 0 29) (by kernel_rfl) rfl rfl trivial (fun hHeld => ?_); refine with_tabW rickyardlaw5_RunsFirst.tab15 rickyardlaw5_RunsFirst.bits15 (fun HT_ HW_ => ?_)
            generalize wr.drew = w58 at HO_5 HO_9 HB hHeld ⊢
            refine pure_ (i := 0) (N := some 92) (v := ?_) (a' := ?_) (msk 1 28) rfl rfl (any_of HT_.out (by kernel_rfl)) (fun _ _ _ h => h) (Or.inl ⟨by rfl, ?_⟩) ?_ ?_
            rotate_left
            ·intro w'; go_simp; with_reducible rfl
            rotate_left
            ·simp only [Act.put, List.setIfInBounds_toArray, List.set_cons_zero, List.set_cons_succ, i64_w, i32_w]; rfl
            refine pure_ (i := 1) (N := some 93) (v := ?_) (a' := ?_) (msk 2 27) rfl rfl (any_of HT_.out (by kernel_rfl)) (fun _ _ _ h => h) (Or.inl ⟨by rfl, ?_⟩) ?_ ?_
            rotate_left
            ·intro w'; go_simp; with_reducible rfl
            rotate_left
            ·simp only [Act.put, List.setIfInBounds_toArray, List.set_cons_zero, List.set_cons_succ, i64_w, i32_w]; rfl
            refine pure_ (i := 2) (N := some 94) (v := ?_) (a' := ?_) (msk 3 26) rfl rfl (any_of HT_.out (by kernel_rfl)) (fun _ _ _ h => h) (Or.inl ⟨by rfl, ?_⟩) ?_ ?_
            rotate_left
            ·intro w'; go_simp; with_reducible rfl
            rotate_left
            ·simp only [Act.put, List.setIfInBounds_toArray, List.set_cons_zero, List.set_cons_succ, i64_w, i32_w]; rfl
            refine pure_ (i := 3) (N := some 95) (v := ?_) (a' := ?_) (msk 4 25) rfl rfl (any_of HT_.out (by kernel_rfl)) (fun _ _ _ h => h) (Or.inl ⟨by rfl, ?_⟩) ?_ ?_
            rotate_left
            ·intro w'; go_simp; with_reducible rfl
            rotate_left
            ·simp only [Act.put, List.setIfInBounds_toArray, List.set_cons_zero, List.set_cons_succ, i64_w, i32_w]; rfl
            refine pure_ (i := 4) (N := some 96) (v := ?_) (a' := ?_) (msk 5 24) rfl rfl (any_of HT_.out (by kernel_rfl)) (fun _ _ _ h => h) (Or.inl ⟨by rfl, ?_⟩) ?_ ?_
            rotate_left
            ·intro w'; go_simp; with_reducible rfl
            rotate_left
            ·simp only [Act.put, List.setIfInBounds_toArray, List.set_cons_zero, List.set_cons_succ, i64_w, i32_w]; rfl
            refine pure_ (i := 5) (N := some 97) (v := ?_) (a' := ?_) (msk 6 23) rfl rfl (any_of HT_.out (by kernel_rfl)) (fun _ _ _ h => h) (Or.inl ⟨by rfl, ?_⟩) ?_ ?_
            rotate_left
            ·intro w'; go_simp; with_reducible rfl
            rotate_left
            ·simp only [Act.put, List.setIfInBounds_toArray, List.set_cons_zero, List.set_cons_succ, i64_w, i32_w]; rfl
            refine pure_ (i := 6) (N := some 98) (v := ?_) (a' := ?_) (msk 7 22) rfl rfl (any_of HT_.out (by kernel_rfl)) (fun _ _ _ h => h) (Or.inl ⟨by rfl, ?_⟩) ?_ ?_
            rotate_left
            ·intro w'; go_simp; with_reducible rfl
            rotate_left
            ·simp only [Act.put, List.setIfInBounds_toArray, List.set_cons_zero, List.set_cons_succ, i64_w, i32_w]; rfl
            refine pure_ (i := 7) (N := some 99) (v := undef) (a' := ?_) (msk 8 21) rfl rfl (any_of HT_.out (by kernel_rfl)) (fun _ _ _ h => h) (Or.inr ⟨by rfl, rfl⟩) ?_ ?_
            rotate_left
            ·simp only [Act.put, List.setIfInBounds_toArray, List.set_cons_zero, List.set_cons_succ, i64_w, i32_w]; rfl
            refine pure_ (i := 8) (N := some 100) (v := undef) (a' := ?_) (msk 9 20) rfl rfl (any_of HT_.out (by kernel_rfl)) (fun _ _ _ h => h) (Or.inr ⟨by rfl, rfl⟩) ?_ ?_
            rotate_left
            ·simp only [Act.put, List.setIfInBounds_toArray, List.set_cons_zero, List.set_cons_succ, i64_w, i32_w]; rfl
            refine pure_ (i := 9) (N := some 101) (v := undef) (a' := ?_) (msk 10 19) rfl rfl (any_of HT_.out (by kernel_rfl)) (fun _ _ _ h => h) (Or.inr ⟨by rfl, rfl⟩) ?_ ?_
            rotate_left
            ·simp only [Act.put, List.setIfInBounds_toArray, List.set_cons_zero, List.set_cons_succ, i64_w, i32_w]; rfl
            refine pure_ (i := 10) (N := some 102) (v := undef) (a' := ?_) (msk 11 18) rfl rfl (any_of HT_.out (by kernel_rfl)) (fun _ _ _ h => h) (Or.inr ⟨by rfl, rfl⟩) ?_ ?_
            rotate_left
            ·simp only [Act.put, List.setIfInBounds_toArray, List.set_cons_zero, List.set_cons_succ, i64_w, i32_w]; rfl
            refine pure_ (i := 11) (N := some 103) (v := undef) (a' := ?_) (msk 12 17) rfl rfl (any_of HT_.out (by kernel_rfl)) (fun _ _ _ h => h) (Or.inr ⟨by rfl, rfl⟩) ?_ ?_
            rotate_left
            ·simp only [Act.put, List.setIfInBounds_toArray, List.set_cons_zero, List.set_cons_succ, i64_w, i32_w]; rfl
            refine pure_ (i := 12) (N := some 104) (v := undef) (a' := ?_) (msk 13 16) rfl rfl (any_of HT_.out (by kernel_rfl)) (fun _ _ _ h => h) (Or.inr ⟨by rfl, rfl⟩) ?_ ?_
            rotate_left
            ·simp only [Act.put, List.setIfInBounds_toArray, List.set_cons_zero, List.set_cons_succ, i64_w, i32_w]; rfl
            refine pure_ (i := 13) (N := some 105) (v := undef) (a' := ?_) (msk 14 15) rfl rfl (any_of HT_.out (by kernel_rfl)) (fun _ _ _ h => h) (Or.inr ⟨by rfl, rfl⟩) ?_ ?_
            rotate_left
            ·simp only [Act.put, List.setIfInBounds_toArray, List.set_cons_zero, List.set_cons_succ, i64_w, i32_w]; rfl
            refine pure_ (i := 14) (N := some 106) (v := ?_) (a' := ?_) (msk 15 14) rfl rfl (any_of HT_.out (by kernel_rfl)) (fun _ _ _ h => h) (Or.inl ⟨by rfl, ?_⟩) ?_ ?_
            rotate_left
            ·intro w'; go_simp; with_reducible rfl
            rotate_left
            ·simp only [Act.put, List.setIfInBounds_toArray, List.set_cons_zero, List.set_cons_succ, i64_w, i32_w]; rfl
            refine pure_ (i := 15) (N := some 107) (v := ?_) (a' := ?_) (msk 16 13) rfl rfl (any_of HT_.out (by kernel_rfl)) (fun _ _ _ h => h) (Or.inl ⟨by rfl, ?_⟩) ?_ ?_
            rotate_left
            ·intro w'; go_simp; with_reducible rfl
            rotate_left
            ·simp only [Act.put, List.setIfInBounds_toArray, List.set_cons_zero, List.set_cons_succ, i64_w, i32_w]; rfl
            refine pure_ (i := 16) (N := some 108) (v := undef) (a' := ?_) (msk 17 12) rfl rfl (any_of HT_.out (by kernel_rfl)) (fun _ _ _ h => h) (Or.inr ⟨by rfl, rfl⟩) ?_ ?_
            rotate_left
            ·simp only [Act.put, List.setIfInBounds_toArray, List.set_cons_zero, List.set_cons_succ, i64_w, i32_w]; rfl
            refine pure_ (i := 17) (N := some 109) (v := undef) (a' := ?_) (msk 18 11) rfl rfl (any_of HT_.out (by kernel_rfl)) (fun _ _ _ h => h) (Or.inr ⟨by rfl, rfl⟩) ?_ ?_
            rotate_left
            ·simp only [Act.put, List.setIfInBounds_toArray, List.set_cons_zero, List.set_cons_succ, i64_w, i32_w]; rfl
            refine pure_ (i := 18) (N := some 110) (v := undef) (a' := ?_) (msk 19 10) rfl rfl (any_of HT_.out (by kernel_rfl)) (fun _ _ _ h => h) (Or.inr ⟨by rfl, rfl⟩) ?_ ?_
            rotate_left
            ·simp only [Act.put, List.setIfInBounds_toArray, List.set_cons_zero, List.set_cons_succ, i64_w, i32_w]; rfl
            refine pure_ (i := 19) (N := some 111) (v := undef) (a' := ?_) (msk 20 9) rfl rfl (any_of HT_.out (by kernel_rfl)) (fun _ _ _ h => h) (Or.inr ⟨by rfl, rfl⟩) ?_ ?_
            rotate_left
            ·simp only [Act.put, List.setIfInBounds_toArray, List.set_cons_zero, List.set_cons_succ, i64_w, i32_w]; rfl
            refine pure_ (i := 20) (N := some 112) (v := undef) (a' := ?_) (msk 21 8) rfl rfl (any_of HT_.out (by kernel_rfl)) (fun _ _ _ h => h) (Or.inr ⟨by rfl, rfl⟩) ?_ ?_
            rotate_left
            ·simp only [Act.put, List.setIfInBounds_toArray, List.set_cons_zero, List.set_cons_succ, i64_w, i32_w]; rfl
            refine pure_ (i := 21) (N := some 113) (v := undef) (a' := ?_) (msk 22 7) rfl rfl (any_of HT_.out (by kernel_rfl)) (fun _ _ _ h => h) (Or.inr ⟨by rfl, rfl⟩) ?_ ?_
            rotate_left
            ·simp only [Act.put, List.setIfInBounds_toArray, List.set_cons_zero, List.set_cons_succ, i64_w, i32_w]; rfl
            refine pure_ (i := 22) (N := some 114) (v := undef) (a' := ?_) (msk 23 6) rfl rfl (any_of HT_.out (by kernel_rfl)) (fun _ _ _ h => h) (Or.inr ⟨by rfl, rfl⟩) ?_ ?_
            rotate_left
            ·simp only [Act.put, List.setIfInBounds_toArray, List.set_cons_zero, List.set_cons_succ, i64_w, i32_w]; rfl
            refine pure_ (i := 23) (N := some 115) (v := undef) (a' := ?_) (msk 24 5) rfl rfl (any_of HT_.out (by kernel_rfl)) (fun _ _ _ h => h) (Or.inr ⟨by rfl, rfl⟩) ?_ ?_
            rotate_left
            ·simp only [Act.put, List.setIfInBounds_toArray, List.set_cons_zero, List.set_cons_succ, i64_w, i32_w]; rfl
            refine pure_ (i := 24) (N := some 116) (v := ?_) (a' := ?_) (msk 25 4) rfl rfl (any_of HT_.out (by kernel_rfl)) (fun _ _ _ h => h) (Or.inl ⟨by rfl, ?_⟩) ?_ ?_
            rotate_left
            ·intro w'; go_simp; with_reducible rfl
            rotate_left
            ·simp only [Act.put, List.setIfInBounds_toArray, List.set_cons_zero, List.set_cons_succ, i64_w, i32_w]; rfl
            refine pure_ (i := 25) (N := some 117) (v := ?_) (a' := ?_) (msk 26 3) rfl rfl (any_of HT_.out (by kernel_rfl)) (fun _ _ _ h => h) (Or.inl ⟨by rfl, ?_⟩) ?_ ?_
            rotate_left
            ·intro w'; go_simp; with_reducible rfl
            rotate_left
            ·simp only [Act.put, List.setIfInBounds_toArray, List.set_cons_zero, List.set_cons_succ, i64_w, i32_w]; rfl
            refine pure_ (i := 26) (N := some 118) (v := undef) (a' := ?_) (msk 27 2) rfl rfl (any_of HT_.out (by kernel_rfl)) (fun _ _ _ h => h) (Or.inr ⟨by rfl, rfl⟩) ?_ ?_
            rotate_left
            ·simp only [Act.put, List.setIfInBounds_toArray, List.set_cons_zero, List.set_cons_succ, i64_w, i32_w]; rfl
            refine pure_ (i := 27) (N := some 119) (v := ?_) (a' := ?_) (msk 28 1) rfl rfl (any_of HT_.out (by kernel_rfl)) (fun _ _ _ h => h) (Or.inl ⟨by rfl, ?_⟩) ?_ ?_
            rotate_left
            ·intro w'; go_simp; with_reducible rfl
            rotate_left
            ·simp only [Act.put, List.setIfInBounds_toArray, List.set_cons_zero, List.set_cons_succ, i64_w, i32_w]; rfl
            refine pure_ (i := 28) (N := some 4) (v := ?_) (a' := ?_) (msk 29 0) rfl rfl (any_of HT_.out (by kernel_rfl)) (fun _ _ _ h => h) (Or.inl ⟨by rfl, ?_⟩) ?_ ?_
            rotate_left
            ·intro w'; go_simp; with_reducible rfl
            rotate_left
            ·simp only [Act.put, List.setIfInBounds_toArray, List.set_cons_zero, List.set_cons_succ, i64_w, i32_w]; rfl
            refine done_ (done_of HT_.out (by kernel_rfl)) ?_
            try go_wp2
            go_ret
            exact ⟨by first | rfl | (simp [errW_none, errW_some] <;> rfl) | (simp [*, errW_none, errW_some] <;> rfl), by repeat (first | (with_reducible first | exact HB.out | apply below_alloc | apply pw_below_drewN | apply below_drew1) | exact HB.out)⟩
          ·rw [if_neg c25] at H
           have c25b0 : (((rd_T32 t185 t188).f1) == (wrap64 (1 + (Int.tmod (wrap64 (a1)) 24)))) = false := beq_eq_false_iff_ne.mpr c25
           have c25b1 : (((rd_T32 t185 t188).f1) != (wrap64 (1 + (Int.tmod (wrap64 (a1)) 24)))) = true := bne_iff_ne.mpr c25
           by_cases c60 : (t190.length : Int) = (t185.length : Int)
           ·rw [if_pos c60] at H
            have c60b0 : ((t190.length : Int) == (t185.length : Int)) = true := beq_iff_eq.mpr c60
            have c60b1 : ((t190.length : Int) != (t185.length : Int)) = false := bne_eq_false_iff_eq.mpr c60
            have c60b2 : (t190.length == t185.length) = true := by first | simpa using c60 | (simp at c60 ⊢; omega)
            clear c60
            have c61b0 := eq_true (of_decide_eq_true (by first | (with_reducible assumption) | assumption) : 0 ≤ t188)
            by_cases c62 : t188 ≤ (t190.length : Int)
            ·rw [if_pos c62] at H
             have c62b0 := eq_true c62
             have c62b1 : decide (t188 ≤ (t190.length : Int)) = true := decide_eq_true c62
             clear c62
             obtain ⟨y219, hy219⟩ : ∃ y_ : List (S32), y_ = (t190.take (t188 : Int).toNat) := ⟨_, rfl⟩
             replace H : (if t188 ≤ (t185.length : Int) then ((rickyardref1_SameRuns.f k2 y219 (t185.take (t188 : Int).toNat)).bind fun t227 => (if t227 = true then (if t188 < (t190.length : Int) then (if (((rd_T32 t190 t188).f0) == (wrap64 (t191 + (wrap64 (1 + (Int.tmod (wrap64 (a1)) 24))))) && (((rd_T32 t190 t188).f1) == (wrap64 (((rd_T32 t185 t188).f1) - (wrap64 (1 + (Int.tmod (wrap64 (a1)) 24))))))) = true then (if 0 ≤ (wrap64 (t188 + 1)) then (if (wrap64 (t188 + 1)) ≤ (t190.length : Int) then (if (wrap64 (t188 + 1)) ≤ (t185.length : Int) then ((rickyardref1_SameRuns.f k2 (t190.drop ((wrap64 (t188 + 1)) : Int).toNat) (t185.drop ((wrap64 (t188 + 1)) : Int).toNat)).bind fun t238 => (if t238 = true then ((rickyardlaw5_awake.f k2).bind fun t239 => (some t239)) else (some false))) else (none)) else (none)) else (none)) else (some false)) else (none)) else (some false))) else (none)) = some r := by first | (rw [hy219]; with_reducible exact H) | (have H2_ := (Option.bind_some _ _).symm.trans H; rw [hy219]; with_reducible exact H2_) | (have H2_ := (Option.bind_some _ _).symm.trans H; with_reducible exact H2_) | with_reducible exact H | (rw [hy219]; exact H) | exact H
             have Ny219 := Aside0.mk hy219
             clear hy219
             have c63b0 := eq_true (of_decide_eq_true (by first | (with_reducible assumption) | assumption) : 0 ≤ t188)
             by_cases c64 : t188 ≤ (t185.length : Int)
             ·rw [if_pos c64] at H
              have c64b0 := eq_true c64
              have c64b1 : decide (t188 ≤ (t185.length : Int)) = true := decide_eq_true c64
              clear c64
              obtain ⟨y223, hy223⟩ : ∃ y_ : List (S32), y_ = (t185.take (t188 : Int).toNat) := ⟨_, rfl⟩
              replace H : ((rickyardref1_SameRuns.f k2 y219 y223).bind fun t227 => (if t227 = true then (if t188 < (t190.length : Int) then (if (((rd_T32 t190 t188).f0) == (wrap64 (t191 + (wrap64 (1 + (Int.tmod (wrap64 (a1)) 24))))) && (((rd_T32 t190 t188).f1) == (wrap64 (((rd_T32 t185 t188).f1) - (wrap64 (1 + (Int.tmod (wrap64 (a1)) 24))))))) = true then (if 0 ≤ (wrap64 (t188 + 1)) then (if (wrap64 (t188 + 1)) ≤ (t190.length : Int) then (if (wrap64 (t188 + 1)) ≤ (t185.length : Int) then ((rickyardref1_SameRuns.f k2 (t190.drop ((wrap64 (t188 + 1)) : Int).toNat) (t185.drop ((wrap64 (t188 + 1)) : Int).toNat)).bind fun t238 => (if t238 = true then ((rickyardlaw5_awake.f k2).bind fun t239 => (some t239)) else (some false))) else (none)) else (none)) else (none)) else (some false)) else (none)) else (some false))) = some r := by first | (rw [hy223]; with_reducible exact H) | (have H2_ := (Option.bind_some _ _).symm.trans H; rw [hy223]; with_reducible exact H2_) | (have H2_ := (Option.bind_some _ _).symm.trans H; with_reducible exact H2_) | with_reducible exact H | (rw [hy223]; exact H) | exact H
              have Ny223 := Aside0.mk hy223
              clear hy223
              replace H := Option.bind_eq_some_iff.mp H
              obtain ⟨t227, A650, H⟩ := H
              replace H : (if t227 = true then (if t188 < (t190.length : Int) then (if (((rd_T32 t190 t188).f0) == (wrap64 (t191 + (wrap64 (1 + (Int.tmod (wrap64 (a1)) 24))))) && (((rd_T32 t190 t188).f1) == (wrap64 (((rd_T32 t185 t188).f1) - (wrap64 (1 + (Int.tmod (wrap64 (a1)) 24))))))) = true then (if 0 ≤ (wrap64 (t188 + 1)) then (if (wrap64 (t188 + 1)) ≤ (t190.length : Int) then (if (wrap64 (t188 + 1)) ≤ (t185.length : Int) then ((rickyardref1_SameRuns.f k2 (t190.drop ((wrap64 (t188 + 1)) : Int).toNat) (t185.drop ((wrap64 (t188 + 1)) : Int).toNat)).bind fun t238 => (if t238 = true then ((rickyardlaw5_awake.f k2).bind fun t239 => (some t239)) else (some false))) else (none)) else (none)) else (none)) else (some false)) else (none)) else (some false)) = some r := H
              have A65 := Aside0.mk A650
              clear A650
              by_cases c66 : t227 = true
              ·subst c66
               have H1 : (if t188 < (t190.length : Int) then (if (((rd_T32 t190 t188).f0) == (wrap64 (t191 + (wrap64 (1 + (Int.tmod (wrap64 (a1)) 24))))) && (((rd_T32 t190 t188).f1) == (wrap64 (((rd_T32 t185 t188).f1) - (wrap64 (1 + (Int.tmod (wrap64 (a1)) 24))))))) = true then (if 0 ≤ (wrap64 (t188 + 1)) then (if (wrap64 (t188 + 1)) ≤ (t190.length : Int) then (if (wrap64 (t188 + 1)) ≤ (t185.length : Int) then ((rickyardref1_SameRuns.f k2 (t190.drop ((wrap64 (t188 + 1)) : Int).toNat) (t185.drop ((wrap64 (t188 + 1)) : Int).toNat)).bind fun t238 => (if t238 = true then ((rickyardlaw5_awake.f k2).bind fun t239 => (some t239)) else (some false))) else (none)) else (none)) else (none)) else (some false)) else (none)) = some r := by rw [if_pos rfl] at H; exact H
               clear H
               have H := H1
               clear H1
               by_cases c67 : t188 < (t190.length : Int)
               ·rw [if_pos c67] at H
                have c67b0 : decide (t188 < (t190.length : Int)) = true := decide_eq_true c67
                clear c67
                by_cases c68 : (((rd_T32 t190 t188).f0) == (wrap64 (t191 + (wrap64 (1 + (Int.tmod (wrap64 (a1)) 24))))) && (((rd_T32 t190 t188).f1) == (wrap64 (((rd_T32 t185 t188).f1) - (wrap64 (1 + (Int.tmod (wrap64 (a1)) 24))))))) = true
                ·rw [if_pos c68] at H
                 have c68b0 : (((rd_T32 t190 t188).f0) == (wrap64 (t191 + (wrap64 (1 + (Int.tmod (wrap64 (a1)) 24))))) && (((rd_T32 t190 t188).f1) == (wrap64 (((rd_T32 t185 t188).f1) - (wrap64 (1 + (Int.tmod (wrap64 (a1)) 24))))))) = true := c68
                 (try (have c68b1 : decide (((rd_T32 t190 t188).f0) = (wrap64 (t191 + (wrap64 (1 + (Int.tmod (wrap64 (a1)) 24))))) && (((rd_T32 t190 t188).f1) == (wrap64 (((rd_T32 t185 t188).f1) - (wrap64 (1 + (Int.tmod (wrap64 (a1)) 24))))))) = true := by simpa using c68))
                 (try (have c68b2 : (((rd_T32 t190 t188).f0) == (wrap64 (t191 + (wrap64 (1 + (Int.tmod (wrap64 (a1)) 24))))) && (((rd_T32 t190 t188).f1) == (wrap64 (((rd_T32 t185 t188).f1) - (wrap64 (1 + (Int.tmod (wrap64 (a1)) 24))))))) = true := by simpa using c68))
                 clear c68
                 obtain ⟨ji69, hji69⟩ : ∃ j_ : Int, (wrap64 (t188 + 1)) = j_ := ⟨_, rfl⟩
                 replace H : (if 0 ≤ (ji69) then (if (ji69) ≤ (t190.length : Int) then (if (ji69) ≤ (t185.length : Int) then ((rickyardref1_SameRuns.f k2 (t190.drop ((ji69) : Int).toNat) (t185.drop ((ji69) : Int).toNat)).bind fun t238 => (if t238 = true then ((rickyardlaw5_awake.f k2).bind fun t239 => (some t239)) else (some false))) else (none)) else (none)) else (none)) = some r := by first | (rw [hji69] at H; exact H) | (simp only [hji69] at H ⊢; exact H)
                 (try rw [hji69] at A65)
                 have hji69w : (IntKind.i64.wrap (t188 + 1)) = ji69 := (i64_w _).trans hji69
                 by_cases c70 : 0 ≤ (ji69)
                 ·rw [if_pos c70] at H
                  have c70b0 := eq_true c70
                  have c70b1 : decide (0 ≤ (ji69)) = true := decide_eq_true c70
                  clear c70
                  by_cases c71 : (ji69) ≤ (t190.length : Int)
                  ·rw [if_pos c71] at H
                   have c71b0 := eq_true c71
                   have c71b1 : decide ((ji69) ≤ (t190.length : Int)) = true := decide_eq_true c71
                   clear c71
                   obtain ⟨y230, hy230⟩ : ∃ y_ : List (S32), y_ = (t190.drop ((ji69) : Int).toNat) := ⟨_, rfl⟩
                   replace H : (if (ji69) ≤ (t185.length : Int) then ((rickyardref1_SameRuns.f k2 y230 (t185.drop ((ji69) : Int).toNat)).bind fun t238 => (if t238 = true then ((rickyardlaw5_awake.f k2).bind fun t239 => (some t239)) else (some false))) else (none)) = some r := by first | (rw [hy230]; with_reducible exact H) | (have H2_ := (Option.bind_some _ _).symm.trans H; rw [hy230]; with_reducible exact H2_) | (have H2_ := (Option.bind_some _ _).symm.trans H; with_reducible exact H2_) | with_reducible exact H | (rw [hy230]; exact H) | exact H
                   have Ny230 := Aside0.mk hy230
                   clear hy230
                   have c72b0 := eq_true (of_decide_eq_true (by first | (with_reducible assumption) | assumption) : 0 ≤ (ji69))
                   by_cases c73 : (ji69) ≤ (t185.length : Int)
                   ·rw [if_pos c73] at H
                    have c73b0 := eq_true c73
                    have c73b1 : decide ((ji69) ≤ (t185.length : Int)) = true := decide_eq_true c73
                    clear c73
                    obtain ⟨y234, hy234⟩ : ∃ y_ : List (S32), y_ = (t185.drop ((ji69) : Int).toNat) := ⟨_, rfl⟩
                    replace H : ((rickyardref1_SameRuns.f k2 y230 y234).bind fun t238 => (if t238 = true then ((rickyardlaw5_awake.f k2).bind fun t239 => (some t239)) else (some false))) = some r := by first | (rw [hy234]; with_reducible exact H) | (have H2_ := (Option.bind_some _ _).symm.trans H; rw [hy234]; with_reducible exact H2_) | (have H2_ := (Option.bind_some _ _).symm.trans H; with_reducible exact H2_) | with_reducible exact H | (rw [hy234]; exact H) | exact H
                    have Ny234 := Aside0.mk hy234
                    clear hy234
                    replace H := Option.bind_eq_some_iff.mp H
                    obtain ⟨t238, A740, H⟩ := H
                    replace H : (if t238 = true then ((rickyardlaw5_awake.f k2).bind fun t239 => (some t239)) else (some false)) = some r := H
                    have A74 := Aside0.mk A740
                    clear A740
                    by_cases c75 : t238 = true
                    ·subst c75
                     have H1 : ((rickyardlaw5_awake.f k2).bind fun t239 => (some t239)) = some r := by rw [if_pos rfl] at H; exact H
                     clear H
                     have H := H1
                     clear H1
                     replace H := Option.bind_eq_some_iff.mp H
                     obtain ⟨t239, A760, H⟩ := H
                     replace H : (some t239) = some r := H
                     have A76 := Aside0.mk A760
                     clear A760
                     obtain rfl := Option.some.inj H
                     have p199 : 0 ≤ (t188 : Int) := of_decide_eq_true (by first | (with_reducible assumption) | assumption)
                     have q199 : t188 < (t185.length : Int) := of_decide_eq_true (by first | (with_reducible assumption) | assumption)
                     obtain ⟨ad199, e199, hx199_0, hx199_1⟩ := at_T32 (Kd.R_reads' HO_5.out).2.2 t188 p199 q199
                     cases e199
                     replace p199 := eq_true p199
                     replace q199 := eq_true q199
                     try go_wp2
                     have n0_ := Aside0.mk (Kd.R_drew HO_5.out)
                     have n1_ := Aside0.mk (Kd.R_drew HO_9.out)
                     have n2_ := Aside0.mk (below_drew1 HB.out)
                     clear HO_5
                     clear HO_9
                     clear HB
                     have HO_5 := n0_
                     have HO_9 := n1_
                     have HB := n2_
                     clear n0_ n1_ n2_
                     obtain ⟨Ao78, co78, eo78⟩ := Kd.R_slice HO_9.out
                     (first | subst eo78 | (injection eo78 with f1_ f2_ f3_; have f4_ := f1_.symm; have f5_ := f3_.symm; clear f1_ f2_ f3_; subst f4_; subst f5_))
                     have q79 : (t188 : Int) ≤ ((t190.length : Int) : Int) := of_decide_eq_true (by first | (with_reducible assumption) | assumption)
                     obtain ⟨i079, hi079, _, hsz79, _⟩ := info_parts info32
                     have hroom79 : t190.length ≤ co78 := (Kd.R_reads' HO_9.out).2.1
                     have hC79 : Kd.C k32 _ Ao78 t190.length t190 := (Kd.R_reads' HO_9.out).2.2
                     have hcut79 := cut_to (P := Try.prog) 23 32 .i64 Try.underlying23 hi079 Ao78 t190.length co78 t188 (of_decide_eq_true (by first | (with_reducible assumption) | assumption)) q79 hroom79
                     have hr79 := Kd.C_take (m := (t188 : Int).toNat) hC79 (by omega)
                     have hy79 : y219.length = (t188 : Int).toNat := (by rw [Ny219.out, List.length_take]; omega)
                     rw [← Ny219.out] at hr79
                     rw [← hy79] at hcut79
                     have HR222 := Aside0.mk hr79
                     have HC222 := Aside0.mk (show y219.length ≤ co78 from by omega)
                     clear hr79 hC79 hroom79 hi079 hsz79
                     have KY79 := Aside0.mk hy79
                     clear hy79
                     have KL79 := Aside0.mk (show (t188 : Int).toNat ≤ t190.length from by omega)
                     replace q79 := eq_true q79
                     have q80 : (t188 : Int) ≤ ((t185.length : Int) : Int) := of_decide_eq_true (by first | (with_reducible assumption) | assumption)
                     obtain ⟨i080, hi080, _, hsz80, _⟩ := info_parts info32
                     have hroom80 : t185.length ≤ co9 := (Kd.R_reads' HO_5.out).2.1
                     have hC80 : Kd.C k32 _ (some ad199) t185.length t185 := (Kd.R_reads' HO_5.out).2.2
                     have hcut80 := cut_to (P := Try.prog) 23 32 .i64 Try.underlying23 hi080 (some ad199) t185.length co9 t188 (of_decide_eq_true (by first | (with_reducible assumption) | assumption)) q80 hroom80
                     have hr80 := Kd.C_take (m := (t188 : Int).toNat) hC80 (by omega)
                     have hy80 : y223.length = (t188 : Int).toNat := (by rw [Ny223.out, List.length_take]; omega)
                     rw [← Ny223.out] at hr80
                     rw [← hy80] at hcut80
                     have HR226 := Aside0.mk hr80
                     have HC226 := Aside0.mk (show y223.length ≤ co9 from by omega)
                     clear hr80 hC80 hroom80 hi080 hsz80
                     have KY80 := Aside0.mk hy80
                     clear hy80
                     have KL80 := Aside0.mk (show (t188 : Int).toNat ≤ t185.length from by omega)
                     replace q80 := eq_true q80
                     have p228 : 0 ≤ (t188 : Int) := of_decide_eq_true (by first | (with_reducible assumption) | assumption)
                     have q228 : t188 < (t190.length : Int) := of_decide_eq_true (by first | (with_reducible assumption) | assumption)
                     obtain ⟨ad228, e228, hx228_0, hx228_1⟩ := at_T32 (Kd.R_reads' HO_9.out).2.2 t188 p228 q228
                     cases e228
                     replace p228 := eq_true p228
                     replace q228 := eq_true q228
                     have p229 : 0 ≤ (t188 : Int) := of_decide_eq_true (by first | (with_reducible assumption) | assumption)
                     have q229 : t188 < (t185.length : Int) := of_decide_eq_true (by first | (with_reducible assumption) | assumption)
                     obtain ⟨ad229, e229, hx229_0, hx229_1⟩ := at_T32 (Kd.R_reads' HO_5.out).2.2 t188 p229 q229
                     obtain rfl : ad199 = ad229 := (by injection e229)
                     replace p229 := eq_true p229
                     replace q229 := eq_true q229
                     refine start_ (n := 47) (S := fun w' => w'.cell? (ad228.add ((t188).toNat * 2)) = some (.int .i64 ((rd_T32 t190 t188).f0)) ∧ w'.cell? ⟨(ad228.add ((t188).toNat * 2)).block, (ad228.add ((t188).toNat * 2)).off + 1, none⟩ = some (.int .i64 ((rd_T32 t190 t188).f1)) ∧ w'.cell? (ad199.add ((t188).toNat * 2)) = some (.int .i64 ((rd_T32 t185 t188).f0)) ∧ w'.cell? ⟨(ad199.add ((t188).toNat * 2)).block, (ad199.add ((t188).toNat * 2)).off + 1, none⟩ = some (.int .i64 ((rd_T32 t185 t188).f1))) (ds := []) (msk 0 47) (by kernel_rfl) rfl rfl ⟨hx228_0, hx228_1, hx229_0, hx229_1⟩ (fun hHeld => ?_); refine with_tabW rickyardlaw5_RunsFirst.tab16 rickyardlaw5_RunsFirst.bits16 (fun HT_ HW_ => ?_)
                     generalize wr.drew = w77 at HO_5 HO_9 HB HR222 HR226 hx228_0 hx228_1 hx229_0 hx229_1 hHeld ⊢
                     refine pure_ (i := 0) (N := some 120) (v := ?_) (a' := ?_) (msk 1 46) rfl rfl (any_of HT_.out (by kernel_rfl)) (fun _ _ _ h => h) (Or.inl ⟨by rfl, ?_⟩) ?_ ?_
                     rotate_left
                     ·intro w'; go_simp; with_reducible rfl
                     rotate_left
                     ·simp only [Act.put, List.setIfInBounds_toArray, List.set_cons_zero, List.set_cons_succ, i64_w, i32_w]; rfl
                     refine pure_ (i := 1) (N := some 121) (v := ?_) (a' := ?_) (msk 2 45) rfl rfl (any_of HT_.out (by kernel_rfl)) (fun _ _ _ h => h) (Or.inl ⟨by rfl, ?_⟩) ?_ ?_
                     rotate_left
                     ·intro w'; go_simp; with_reducible rfl
                     rotate_left
                     ·simp only [Act.put, List.setIfInBounds_toArray, List.set_cons_zero, List.set_cons_succ, i64_w, i32_w]; rfl
                     refine pure_ (i := 2) (N := some 122) (v := ?_) (a' := ?_) (msk 3 44) rfl rfl (any_of HT_.out (by kernel_rfl)) (fun _ _ _ h => h) (Or.inl ⟨by rfl, ?_⟩) ?_ ?_
                     rotate_left
                     ·intro w'; go_simp; with_reducible rfl
                     rotate_left
                     ·simp only [Act.put, List.setIfInBounds_toArray, List.set_cons_zero, List.set_cons_succ, i64_w, i32_w]; rfl
                     refine pure_ (i := 3) (N := some 123) (v := ?_) (a' := ?_) (msk 4 43) rfl rfl (any_of HT_.out (by kernel_rfl)) (fun _ _ _ h => h) (Or.inl ⟨by rfl, ?_⟩) ?_ ?_
                     rotate_left
                     ·intro w'; go_simp; with_reducible rfl
                     rotate_left
                     ·simp only [Act.put, List.setIfInBounds_toArray, List.set_cons_zero, List.set_cons_succ, i64_w, i32_w]; rfl
                     refine pure_ (i := 4) (N := some 124) (v := ?_) (a' := ?_) (msk 5 42) rfl rfl (any_of HT_.out (by kernel_rfl)) (fun _ _ _ h => h) (Or.inl ⟨by rfl, ?_⟩) ?_ ?_
                     rotate_left
                     ·intro w'; go_simp; with_reducible rfl
                     rotate_left
                     ·simp only [Act.put, List.setIfInBounds_toArray, List.set_cons_zero, List.set_cons_succ, i64_w, i32_w]; rfl
                     refine pure_ (i := 5) (N := some 125) (v := ?_) (a' := ?_) (msk 6 41) rfl rfl (any_of HT_.out (by kernel_rfl)) (fun _ _ _ h => h) (Or.inl ⟨by rfl, ?_⟩) ?_ ?_
                     rotate_left
                     ·intro w'; go_simp; with_reducible rfl
                     rotate_left
                     ·simp only [Act.put, List.setIfInBounds_toArray, List.set_cons_zero, List.set_cons_succ, i64_w, i32_w]; rfl
                     refine pure_ (i := 6) (N := some 126) (v := ?_) (a' := ?_) (msk 7 40) rfl rfl (any_of HT_.out (by kernel_rfl)) (fun _ _ _ h => h) (Or.inl ⟨by rfl, ?_⟩) ?_ ?_
                     rotate_left
                     ·intro w'; go_simp; with_reducible rfl
                     rotate_left
                     ·simp only [Act.put, List.setIfInBounds_toArray, List.set_cons_zero, List.set_cons_succ, i64_w, i32_w]; rfl
                     refine pure_ (i := 7) (N := some 127) (v := ?_) (a' := ?_) (msk 8 39) rfl rfl (any_of HT_.out (by kernel_rfl)) (fun _ _ _ h => h) (Or.inl ⟨by rfl, ?_⟩) ?_ ?_
                     rotate_left
                     ·intro w'; go_simp; with_reducible rfl
                     rotate_left
                     ·simp only [Act.put, List.setIfInBounds_toArray, List.set_cons_zero, List.set_cons_succ, i64_w, i32_w]; rfl
                     refine pure_ (i := 8) (N := some 128) (v := ?_) (a' := ?_) (msk 9 38) rfl rfl (any_of HT_.out (by kernel_rfl)) (fun _ _ _ h => h) (Or.inl ⟨by rfl, ?_⟩) ?_ ?_
                     rotate_left
                     ·intro w'; go_simp; with_reducible rfl
                     rotate_left
                     ·simp only [Act.put, List.setIfInBounds_toArray, List.set_cons_zero, List.set_cons_succ, i64_w, i32_w]; rfl
                     refine pure_ (i := 9) (N := some 129) (v := ?_) (a' := ?_) (msk 10 37) rfl rfl (any_of HT_.out (by kernel_rfl)) (fun _ _ _ h => h) (Or.inl ⟨by rfl, ?_⟩) ?_ ?_
                     rotate_left
                     ·intro w'; go_simp; with_reducible rfl
                     rotate_left
                     ·simp only [Act.put, List.setIfInBounds_toArray, List.set_cons_zero, List.set_cons_succ, i64_w, i32_w]; rfl
                     refine pure_ (i := 10) (N := some 130) (v := ?_) (a' := ?_) (msk 11 36) rfl rfl (any_of HT_.out (by kernel_rfl)) (fun _ _ _ h => h) (Or.inl ⟨by rfl, ?_⟩) ?_ ?_
                     rotate_left
                     ·intro w'; go_simp; with_reducible rfl
                     rotate_left
                     ·simp only [Act.put, List.setIfInBounds_toArray, List.set_cons_zero, List.set_cons_succ, i64_w, i32_w]; rfl
                     refine pure_ (i := 11) (N := some 131) (v := ?_) (a' := ?_) (msk 12 35) rfl rfl (any_of HT_.out (by kernel_rfl)) (fun _ _ _ h => h) (Or.inl ⟨by rfl, ?_⟩) ?_ ?_
                     rotate_left
                     ·intro w'; go_simp; with_reducible rfl
                     rotate_left
                     ·simp only [Act.put, List.setIfInBounds_toArray, List.set_cons_zero, List.set_cons_succ, i64_w, i32_w]; rfl
                     refine one_ (i := 12) (N := some 132) (msk 13 34) rfl rfl (one_of HT_.out (by kernel_rfl)) (by decide) (fun K hK => ?_)
                     refine goes_ Try.func17 (by kernel_rfl) rfl #[.slice (some ad228) y219.length co78, .slice (some ad199) y223.length co9] (by rfl) rfl rfl (by (try simp only [List.map_toArray, List.map_cons, List.map_nil]); first | done | rfl | (simp only [List.length_drop, List.length_take]; rfl)) ?_
                     with_reducible refine (rickyardref1_SameRuns.calls k2 _ _ y219 _ _ y223 true _ ?side1 ?side2 ?side3 ?side4 A65.out).mono ?_
                     (case side1 => repeat (first | exact (by repeat (first | (with_reducible exact HR222.out) | (with_reducible refine Kd.C_alloc ?_ _) | (with_reducible refine Kd.C_drewN ?_ _) | (with_reducible refine Kd.C_drew ?_) | exact HR222.out)) | (with_reducible refine Kd.C_alloc ?_ _) | (with_reducible refine Kd.C_drewN ?_ _) | (with_reducible refine Kd.C_drew ?_)))
                     (case side2 => exact HC222.out)
                     (case side3 => repeat (first | exact (by repeat (first | (with_reducible exact HR226.out) | (with_reducible refine Kd.C_alloc ?_ _) | (with_reducible refine Kd.C_drewN ?_ _) | (with_reducible refine Kd.C_drew ?_) | exact HR226.out)) | (with_reducible refine Kd.C_alloc ?_ _) | (with_reducible refine Kd.C_drewN ?_ _) | (with_reducible refine Kd.C_drew ?_)))
                     (case side4 => exact HC226.out)
                     rintro e w' ⟨rfl, ⟨nd, rfl⟩⟩
                     refine ⟨_, rfl, ?_⟩
                     have q81 : ((ji69) : Int) ≤ ((t190.length : Int) : Int) := of_decide_eq_true (by first | (with_reducible assumption) | assumption)
                     obtain ⟨i081, hi081, _, hsz81, _⟩ := info_parts info32
                     have hroom81 : t190.length ≤ co78 := (Kd.R_reads' HO_9.out).2.1
                     have hC81 : Kd.C k32 _ (some ad228) t190.length t190 := (Kd.R_reads' HO_9.out).2.2
                     have q081 : (0 : Int) ≤ ((ji69) : Int) := of_decide_eq_true (by first | (with_reducible assumption) | assumption)
                     have hcut81 := cut_from (P := Try.prog) 23 32 .i64 Try.underlying23 hi081 2 hsz81 (some ad228) t190.length co78 (ji69) q081 q81
                     have hr81 := Kd.C_drop (m := ((ji69) : Int).toNat) (c := co78) hC81 (by omega) hroom81
                     obtain ⟨A81, hA81⟩ : ∃ A1, A1 = (if co78 = ((ji69) : Int).toNat then (some ad228) else ((some ad228) : Option Addr).map (·.add (((ji69) : Int).toNat * 2))) := ⟨_, rfl⟩
                     obtain ⟨c81, hc81⟩ : ∃ c1, c1 = co78 - ((ji69) : Int).toNat := ⟨_, rfl⟩
                     have hy81 : y230.length = t190.length - ((ji69) : Int).toNat := (by rw [Ny230.out, List.length_drop] <;> omega)
                     rw [show (t190).drop ((ji69) : Int).toNat = y230 from Ny230.out.symm] at hr81
                     replace hr81 : Kd.C k32 _ A81 y230.length y230 := (by rw [hA81]; exact hr81)
                     rw [← hy81, ← hA81, ← hc81] at hcut81
                     have HR233 := Aside0.mk hr81
                     have HC233 := Aside0.mk (show y230.length ≤ c81 from by rw [hy81, hc81]; exact Nat.sub_le_sub_right hroom81 _)
                     clear hr81 hC81 hroom81 hi081 hsz81 hc81
                     have KY81 := Aside0.mk hy81
                     have KA81 := Aside0.mk hA81
                     clear hy81 hA81
                     have KL81 := Aside0.mk (show ((ji69) : Int).toNat ≤ t190.length from by omega)
                     replace q81 := eq_true q81
                     have q82 : ((ji69) : Int) ≤ ((t185.length : Int) : Int) := of_decide_eq_true (by first | (with_reducible assumption) | assumption)
                     obtain ⟨i082, hi082, _, hsz82, _⟩ := info_parts info32
                     have hroom82 : t185.length ≤ co9 := (Kd.R_reads' HO_5.out).2.1
                     have hC82 : Kd.C k32 _ (some ad199) t185.length t185 := (Kd.R_reads' HO_5.out).2.2
                     have q082 : (0 : Int) ≤ ((ji69) : Int) := of_decide_eq_true (by first | (with_reducible assumption) | assumption)
                     have hcut82 := cut_from (P := Try.prog) 23 32 .i64 Try.underlying23 hi082 2 hsz82 (some ad199) t185.length co9 (ji69) q082 q82
                     have hr82 := Kd.C_drop (m := ((ji69) : Int).toNat) (c := co9) hC82 (by omega) hroom82
                     obtain ⟨A82, hA82⟩ : ∃ A1, A1 = (if co9 = ((ji69) : Int).toNat then (some ad199) else ((some ad199) : Option Addr).map (·.add (((ji69) : Int).toNat * 2))) := ⟨_, rfl⟩
                     obtain ⟨c82, hc82⟩ : ∃ c1, c1 = co9 - ((ji69) : Int).toNat := ⟨_, rfl⟩
                     have hy82 : y234.length = t185.length - ((ji69) : Int).toNat := (by rw [Ny234.out, List.length_drop] <;> omega)
                     rw [show (t185).drop ((ji69) : Int).toNat = y234 from Ny234.out.symm] at hr82
                     replace hr82 : Kd.C k32 _ A82 y234.length y234 := (by rw [hA82]; exact hr82)
                     rw [← hy82, ← hA82, ← hc82] at hcut82
                     have HR237 := Aside0.mk hr82
                     have HC237 := Aside0.mk (show y234.length ≤ c82 from by rw [hy82, hc82]; exact Nat.sub_le_sub_right hroom82 _)
                     clear hr82 hC82 hroom82 hi082 hsz82 hc82
                     have KY82 := Aside0.mk hy82
                     have KA82 := Aside0.mk hA82
                     clear hy82 hA82
                     have KL82 := Aside0.mk (show ((ji69) : Int).toNat ≤ t185.length from by omega)
                     replace q82 := eq_true q82
                     refine hK.out _ _ ⟨hHeld.1, hHeld.2.1, hHeld.2.2.1, hHeld.2.2.2⟩ (fun hHeld => ?_)
                     clear hK K
                     refine norm_ (a' := ?_) ?_ ?_
                     rotate_left
                     ·show Act.put _ (some 132) _ = _
                      simp only [Act.put, List.setIfInBounds_toArray, List.set_cons_zero, List.set_cons_succ, i64_w, i32_w]; rfl
                     refine pure_ (i := 13) (N := some 133) (v := ?_) (a' := ?_) (msk 14 33) rfl rfl (any_of HT_.out (by kernel_rfl)) (fun _ _ _ h => h) (Or.inl ⟨by rfl, ?_⟩) ?_ ?_
                     rotate_left
                     ·intro w'; go_simp; with_reducible rfl
                     rotate_left
                     ·simp only [Act.put, List.setIfInBounds_toArray, List.set_cons_zero, List.set_cons_succ, i64_w, i32_w]; rfl
                     refine pure_ (i := 14) (N := some 134) (v := ?_) (a' := ?_) (msk 15 32) rfl rfl (any_of HT_.out (by kernel_rfl)) (fun _ _ _ h => h) (Or.inl ⟨by rfl, ?_⟩) ?_ ?_
                     rotate_left
                     ·intro w'; go_simp; with_reducible rfl
                     rotate_left
                     ·simp only [Act.put, List.setIfInBounds_toArray, List.set_cons_zero, List.set_cons_succ, i64_w, i32_w]; rfl
                     refine pure_ (i := 15) (N := some 135) (v := ?_) (a' := ?_) (msk 16 31) rfl rfl (any_of HT_.out (by kernel_rfl)) (fun _ _ _ h => h) (Or.inl ⟨by rfl, ?_⟩) ?_ ?_
                     rotate_left
                     ·intro w'; go_simp; with_reducible rfl
                     rotate_left
                     ·simp only [Act.put, List.setIfInBounds_toArray, List.set_cons_zero, List.set_cons_succ, i64_w, i32_w]; rfl
                     refine pure_ (i := 16) (N := some 136) (v := ?_) (a' := ?_) (msk 17 30) rfl rfl (any_of HT_.out (by kernel_rfl)) (fun _ _ _ h => h) (Or.inl ⟨by rfl, ?_⟩) ?_ ?_
                     rotate_left
                     ·intro w'; go_simp; with_reducible rfl
                     rotate_left
                     ·simp only [Act.put, List.setIfInBounds_toArray, List.set_cons_zero, List.set_cons_succ, i64_w, i32_w]; rfl
                     refine pure_ (i := 17) (N := some 137) (v := ?_) (a' := ?_) (msk 18 29) rfl rfl (any_of HT_.out (by kernel_rfl)) (fun _ _ _ h => h) (Or.inl ⟨by rfl, ?_⟩) ?_ ?_
                     rotate_left
                     ·intro w'; go_simp; with_reducible rfl
                     rotate_left
                     ·simp only [Act.put, List.setIfInBounds_toArray, List.set_cons_zero, List.set_cons_succ, i64_w, i32_w]; rfl
                     refine pure_ (i := 19) (N := some 139) (v := ?_) (a' := ?_) #[tt,tt,tt,tt,tt,tt,tt,tt,tt,tt,tt,tt,tt,tt,tt,tt,tt,tt,ff,tt,ff,ff,ff,ff,ff,ff,ff,ff,ff,ff,ff,ff,ff,ff,ff,ff,ff,ff,ff,ff,ff,ff,ff,ff,ff,ff,ff] rfl rfl (any_of HT_.out (by kernel_rfl)) (fun _ _ _ h => h) (Or.inl ⟨by rfl, ?_⟩) ?_ ?_
                     rotate_left
                     ·intro w'; go_simp; with_reducible rfl
                     rotate_left
                     ·simp only [Act.put, List.setIfInBounds_toArray, List.set_cons_zero, List.set_cons_succ, i64_w, i32_w]; rfl
                     refine pure_ (i := 20) (N := some 140) (v := ?_) (a' := ?_) #[tt,tt,tt,tt,tt,tt,tt,tt,tt,tt,tt,tt,tt,tt,tt,tt,tt,tt,ff,tt,tt,ff,ff,ff,ff,ff,ff,ff,ff,ff,ff,ff,ff,ff,ff,ff,ff,ff,ff,ff,ff,ff,ff,ff,ff,ff,ff] rfl rfl (any_of HT_.out (by kernel_rfl)) (fun _ _ _ h => h) (Or.inl ⟨by rfl, ?_⟩) ?_ ?_
                     rotate_left
                     ·intro w'; go_simp; with_reducible rfl
                     rotate_left
                     ·simp only [Act.put, List.setIfInBounds_toArray, List.set_cons_zero, List.set_cons_succ, i64_w, i32_w]; rfl
                     refine pure_ (i := 21) (N := some 141) (v := ?_) (a' := ?_) #[tt,tt,tt,tt,tt,tt,tt,tt,tt,tt,tt,tt,tt,tt,tt,tt,tt,tt,ff,tt,tt,tt,ff,ff,ff,ff,ff,ff,ff,ff,ff,ff,ff,ff,ff,ff,ff,ff,ff,ff,ff,ff,ff,ff,ff,ff,ff] rfl rfl (any_of HT_.out (by kernel_rfl)) (fun _ _ _ h => h) (Or.inl ⟨by rfl, ?_⟩) ?_ ?_
                     rotate_left
                     ·intro w'; go_simp; with_reducible rfl
                     rotate_left
                     ·simp only [Act.put, List.setIfInBounds_toArray, List.set_cons_zero, List.set_cons_succ, i64_w, i32_w]; rfl
                     refine pure_ (i := 22) (N := some 142) (v := ?_) (a' := ?_) #[tt,tt,tt,tt,tt,tt,tt,tt,tt,tt,tt,tt,tt,tt,tt,tt,tt,tt,ff,tt,tt,tt,tt,ff,ff,ff,ff,ff,ff,ff,ff,ff,ff,ff,ff,ff,ff,ff,ff,ff,ff,ff,ff,ff,ff,ff,ff] rfl rfl (any_of HT_.out (by kernel_rfl)) (fun _ _ _ h => h) (Or.inl ⟨by rfl, ?_⟩) ?_ ?_
                     rotate_left
                     ·intro w'; go_simp; with_reducible rfl
                     rotate_left
                     ·simp only [Act.put, List.setIfInBounds_toArray, List.set_cons_zero, List.set_cons_succ, i64_w, i32_w]; rfl
                     refine pure_ (i := 23) (N := some 143) (v := ?_) (a' := ?_) #[tt,tt,tt,tt,tt,tt,tt,tt,tt,tt,tt,tt,tt,tt,tt,tt,tt,tt,ff,tt,tt,tt,tt,tt,ff,ff,ff,ff,ff,ff,ff,ff,ff,ff,ff,ff,ff,ff,ff,ff,ff,ff,ff,ff,ff,ff,ff] rfl rfl (any_of HT_.out (by kernel_rfl)) (fun _ _ _ h => h) (Or.inl ⟨by rfl, ?_⟩) ?_ ?_
                     rotate_left
                     ·intro w'; go_simp; with_reducible rfl
                     rotate_left
                     ·simp only [Act.put, List.setIfInBounds_toArray, List.set_cons_zero, List.set_cons_succ, i64_w, i32_w]; rfl
                     refine pure_ (i := 24) (N := some 144) (v := ?_) (a' := ?_) #[tt,tt,tt,tt,tt,tt,tt,tt,tt,tt,tt,tt,tt,tt,tt,tt,tt,tt,ff,tt,tt,tt,tt,tt,tt,ff,ff,ff,ff,ff,ff,ff,ff,ff,ff,ff,ff,ff,ff,ff,ff,ff,ff,ff,ff,ff,ff] rfl rfl (any_of HT_.out (by kernel_rfl)) (fun _ _ _ h => h) (Or.inl ⟨by rfl, ?_⟩) ?_ ?_
                     rotate_left
                     ·intro w'; go_simp; with_reducible rfl
                     rotate_left
                     ·simp only [Act.put, List.setIfInBounds_toArray, List.set_cons_zero, List.set_cons_succ, i64_w, i32_w]; rfl
                     refine pure_ (i := 25) (N := some 145) (v := ?_) (a' := ?_) #[tt,tt,tt,tt,tt,tt,tt,tt,tt,tt,tt,tt,tt,tt,tt,tt,tt,tt,ff,tt,tt,tt,tt,tt,tt,tt,ff,ff,ff,ff,ff,ff,ff,ff,ff,ff,ff,ff,ff,ff,ff,ff,ff,ff,ff,ff,ff] rfl rfl (any_of HT_.out (by kernel_rfl)) (fun _ _ _ h => h) (Or.inl ⟨by rfl, ?_⟩) ?_ ?_
                     rotate_left
                     ·intro w'; go_simp; with_reducible rfl
                     rotate_left
                     ·simp only [Act.put, List.setIfInBounds_toArray, List.set_cons_zero, List.set_cons_succ, i64_w, i32_w]; rfl
                     refine pure_ (i := 27) (N := some 147) (v := ?_) (a' := ?_) #[tt,tt,tt,tt,tt,tt,tt,tt,tt,tt,tt,tt,tt,tt,tt,tt,tt,tt,ff,tt,tt,tt,tt,tt,tt,tt,ff,tt,ff,ff,ff,ff,ff,ff,ff,ff,ff,ff,ff,ff,ff,ff,ff,ff,ff,ff,ff] rfl rfl (any_of HT_.out (by kernel_rfl)) (fun _ _ _ h => h) (Or.inl ⟨by rfl, ?_⟩) ?_ ?_
                     rotate_left
                     ·intro w'; go_simp; with_reducible rfl
                     rotate_left
                     ·simp only [Act.put, List.setIfInBounds_toArray, List.set_cons_zero, List.set_cons_succ, i64_w, i32_w]; rfl
                     refine take_ (i := 18) (N := some 138) (v := ?_) (a' := ?_) #[tt,tt,tt,tt,tt,tt,tt,tt,tt,tt,tt,tt,tt,tt,tt,tt,tt,tt,tt,tt,tt,tt,tt,tt,tt,tt,ff,tt,ff,ff,ff,ff,ff,ff,ff,ff,ff,ff,ff,ff,ff,ff,ff,ff,ff,ff,ff] rfl rfl (take_ofW HT_.out HW_.out (by kernel_rfl)) (fun _ _ _ h => h) (Or.inl ⟨by rfl, ?_⟩) hHeld ?_ ?_
                     rotate_left
                     ·rintro w' ⟨s0, s1, s2, s3⟩
                      go_simp
                      with_reducible rfl
                     rotate_left
                     ·simp only [Act.put, List.setIfInBounds_toArray, List.set_cons_zero, List.set_cons_succ, i64_w, i32_w]; rfl
                     refine take_ (i := 26) (N := some 146) (v := ?_) (a' := ?_) (msk 28 19) rfl rfl (take_ofW HT_.out HW_.out (by kernel_rfl)) (fun _ _ _ h => h) (Or.inl ⟨by rfl, ?_⟩) hHeld ?_ ?_
                     rotate_left
                     ·rintro w' ⟨s0, s1, s2, s3⟩
                      go_simp
                      with_reducible rfl
                     rotate_left
                     ·simp only [Act.put, List.setIfInBounds_toArray, List.set_cons_zero, List.set_cons_succ, i64_w, i32_w]; rfl
                     refine pure_ (i := 28) (N := some 148) (v := ?_) (a' := ?_) (msk 29 18) rfl rfl (any_of HT_.out (by kernel_rfl)) (fun _ _ _ h => h) (Or.inl ⟨by rfl, ?_⟩) ?_ ?_
                     rotate_left
                     ·intro w'; go_simp; with_reducible rfl
                     rotate_left
                     ·simp only [Act.put, List.setIfInBounds_toArray, List.set_cons_zero, List.set_cons_succ, i64_w, i32_w]; rfl
                     refine pure_ (i := 29) (N := some 149) (v := ?_) (a' := ?_) (msk 30 17) rfl rfl (any_of HT_.out (by kernel_rfl)) (fun _ _ _ h => h) (Or.inl ⟨by rfl, ?_⟩) ?_ ?_
                     rotate_left
                     ·intro w'; go_simp; with_reducible rfl
                     rotate_left
                     ·simp only [Act.put, List.setIfInBounds_toArray, List.set_cons_zero, List.set_cons_succ, i64_w, i32_w]; rfl
                     refine pure_ (i := 30) (N := some 150) (v := ?_) (a' := ?_) (msk 31 16) rfl rfl (any_of HT_.out (by kernel_rfl)) (fun _ _ _ h => h) (Or.inl ⟨by rfl, ?_⟩) ?_ ?_
                     rotate_left
                     ·intro w'; go_simp; with_reducible rfl
                     rotate_left
                     ·simp only [Act.put, List.setIfInBounds_toArray, List.set_cons_zero, List.set_cons_succ, i64_w, i32_w]; rfl
                     refine pure_ (i := 31) (N := some 151) (v := ?_) (a' := ?_) (msk 32 15) rfl rfl (any_of HT_.out (by kernel_rfl)) (fun _ _ _ h => h) (Or.inl ⟨by rfl, ?_⟩) ?_ ?_
                     rotate_left
                     ·intro w'; go_simp; with_reducible rfl
                     rotate_left
                     ·simp only [Act.put, List.setIfInBounds_toArray, List.set_cons_zero, List.set_cons_succ, i64_w, i32_w]; rfl
                     refine pure_ (i := 32) (N := some 152) (v := ?_) (a' := ?_) (msk 33 14) rfl rfl (any_of HT_.out (by kernel_rfl)) (fun _ _ _ h => h) (Or.inl ⟨by rfl, ?_⟩) ?_ ?_
                     rotate_left
                     ·intro w'; go_simp; with_reducible rfl
                     rotate_left
                     ·simp only [Act.put, List.setIfInBounds_toArray, List.set_cons_zero, List.set_cons_succ, i64_w, i32_w]; rfl
                     refine pure_ (i := 33) (N := some 153) (v := ?_) (a' := ?_) (msk 34 13) rfl rfl (any_of HT_.out (by kernel_rfl)) (fun _ _ _ h => h) (Or.inl ⟨by rfl, ?_⟩) ?_ ?_
                     rotate_left
                     ·intro w'; go_simp; with_reducible rfl
                     rotate_left
                     ·simp only [Act.put, List.setIfInBounds_toArray, List.set_cons_zero, List.set_cons_succ, i64_w, i32_w]; rfl
                     refine pure_ (i := 34) (N := some 154) (v := ?_) (a' := ?_) (msk 35 12) rfl rfl (any_of HT_.out (by kernel_rfl)) (fun _ _ _ h => h) (Or.inl ⟨by rfl, ?_⟩) ?_ ?_
                     rotate_left
                     ·intro w'; go_simp; with_reducible rfl
                     rotate_left
                     ·simp only [Act.put, List.setIfInBounds_toArray, List.set_cons_zero, List.set_cons_succ, i64_w, i32_w]; rfl
                     refine pure_ (i := 35) (N := some 155) (v := ?_) (a' := ?_) (msk 36 11) rfl rfl (any_of HT_.out (by kernel_rfl)) (fun _ _ _ h => h) (Or.inl ⟨by rfl, ?_⟩) ?_ ?_
                     rotate_left
                     ·intro w'; go_simp; with_reducible rfl
                     rotate_left
                     ·simp only [Act.put, List.setIfInBounds_toArray, List.set_cons_zero, List.set_cons_succ, i64_w, i32_w]; rfl
                     refine pure_ (i := 36) (N := some 156) (v := ?_) (a' := ?_) (msk 37 10) rfl rfl (any_of HT_.out (by kernel_rfl)) (fun _ _ _ h => h) (Or.inl ⟨by rfl, ?_⟩) ?_ ?_
                     rotate_left
                     ·intro w'; go_simp; with_reducible rfl
                     rotate_left
                     ·simp only [Act.put, List.setIfInBounds_toArray, List.set_cons_zero, List.set_cons_succ, i64_w, i32_w]; rfl
                     refine pure_ (i := 37) (N := some 157) (v := ?_) (a' := ?_) (msk 38 9) rfl rfl (any_of HT_.out (by kernel_rfl)) (fun _ _ _ h => h) (Or.inl ⟨by rfl, ?_⟩) ?_ ?_
                     rotate_left
                     ·intro w'; go_simp; with_reducible rfl
                     rotate_left
                     ·simp only [Act.put, List.setIfInBounds_toArray, List.set_cons_zero, List.set_cons_succ, i64_w, i32_w]; rfl
                     refine pure_ (i := 38) (N := some 158) (v := ?_) (a' := ?_) (msk 39 8) rfl rfl (any_of HT_.out (by kernel_rfl)) (fun _ _ _ h => h) (Or.inl ⟨by rfl, ?_⟩) ?_ ?_
                     rotate_left
                     ·intro w'; go_simp; with_reducible rfl
                     rotate_left
                     ·simp only [Act.put, List.setIfInBounds_toArray, List.set_cons_zero, List.set_cons_succ, i64_w, i32_w]; rfl
                     refine pure_ (i := 39) (N := some 159) (v := ?_) (a' := ?_) (msk 40 7) rfl rfl (any_of HT_.out (by kernel_rfl)) (fun _ _ _ h => h) (Or.inl ⟨by rfl, ?_⟩) ?_ ?_
                     rotate_left
                     ·intro w'; go_simp; with_reducible rfl
                     rotate_left
                     ·simp only [Act.put, List.setIfInBounds_toArray, List.set_cons_zero, List.set_cons_succ, i64_w, i32_w]; rfl
                     refine pure_ (i := 40) (N := some 160) (v := ?_) (a' := ?_) (msk 41 6) rfl rfl (any_of HT_.out (by kernel_rfl)) (fun _ _ _ h => h) (Or.inl ⟨by rfl, ?_⟩) ?_ ?_
                     rotate_left
                     ·intro w'; go_simp; with_reducible rfl
                     rotate_left
                     ·simp only [Act.put, List.setIfInBounds_toArray, List.set_cons_zero, List.set_cons_succ, i64_w, i32_w]; rfl
                     refine one_ (i := 41) (N := some 161) (msk 42 5) rfl rfl (one_of HT_.out (by kernel_rfl)) (by decide) (fun K hK => ?_)
                     refine goes_ Try.func17 (by kernel_rfl) rfl #[.slice A81 y230.length c81, .slice A82 y234.length c82] (by rfl) rfl rfl (by (try simp only [List.map_toArray, List.map_cons, List.map_nil]); first | done | rfl | (simp only [List.length_drop, List.length_take]; rfl)) ?_
                     with_reducible refine (rickyardref1_SameRuns.calls k2 _ _ y230 _ _ y234 true _ ?side1 ?side2 ?side3 ?side4 A74.out).mono ?_
                     (case side1 => repeat (first | exact (by repeat (first | (with_reducible exact HR233.out) | (with_reducible refine Kd.C_alloc ?_ _) | (with_reducible refine Kd.C_drewN ?_ _) | (with_reducible refine Kd.C_drew ?_) | exact HR233.out)) | (with_reducible refine Kd.C_alloc ?_ _) | (with_reducible refine Kd.C_drewN ?_ _) | (with_reducible refine Kd.C_drew ?_)))
                     (case side2 => exact HC233.out)
                     (case side3 => repeat (first | exact (by repeat (first | (with_reducible exact HR237.out) | (with_reducible refine Kd.C_alloc ?_ _) | (with_reducible refine Kd.C_drewN ?_ _) | (with_reducible refine Kd.C_drew ?_) | exact HR237.out)) | (with_reducible refine Kd.C_alloc ?_ _) | (with_reducible refine Kd.C_drewN ?_ _) | (with_reducible refine Kd.C_drew ?_)))
                     (case side4 => exact HC237.out)
                     rintro e w' ⟨rfl, ⟨nd, rfl⟩⟩
                     refine ⟨_, rfl, ?_⟩
                     refine hK.out _ _ ⟨hHeld.1, hHeld.2.1, hHeld.2.2.1, hHeld.2.2.2⟩ (fun hHeld => ?_)
                     clear hK K
                     refine norm_ (a' := ?_) ?_ ?_
                     rotate_left
                     ·show Act.put _ (some 161) _ = _
                      simp only [Act.put, List.setIfInBounds_toArray, List.set_cons_zero, List.set_cons_succ, i64_w, i32_w]; rfl
                     refine pure_ (i := 42) (N := some 162) (v := ?_) (a' := ?_) (msk 43 4) rfl rfl (any_of HT_.out (by kernel_rfl)) (fun _ _ _ h => h) (Or.inl ⟨by rfl, ?_⟩) ?_ ?_
                     rotate_left
                     ·intro w'; go_simp; with_reducible rfl
                     rotate_left
                     ·simp only [Act.put, List.setIfInBounds_toArray, List.set_cons_zero, List.set_cons_succ, i64_w, i32_w]; rfl
                     refine pure_ (i := 43) (N := some 163) (v := ?_) (a' := ?_) (msk 44 3) rfl rfl (any_of HT_.out (by kernel_rfl)) (fun _ _ _ h => h) (Or.inl ⟨by rfl, ?_⟩) ?_ ?_
                     rotate_left
                     ·intro w'; go_simp; with_reducible rfl
                     rotate_left
                     ·simp only [Act.put, List.setIfInBounds_toArray, List.set_cons_zero, List.set_cons_succ, i64_w, i32_w]; rfl
                     refine one_ (i := 44) (N := some 164) (msk 45 2) rfl rfl (one_of HT_.out (by kernel_rfl)) (by decide) (fun K hK => ?_)
                     refine goes_ Try.func16 (by kernel_rfl) rfl #[] (by rfl) rfl rfl (by (try simp only [List.map_toArray, List.map_cons, List.map_nil]); first | done | rfl | (simp only [List.length_drop, List.length_take]; rfl)) ?_
                     with_reducible refine (rickyardlaw5_awake.calls k2  t239 _ A76.out).mono ?_
                     rintro e w83 ⟨rfl, hb⟩
                     have HS0_ := (hb.cell (World.block_lt_of_cell? _ _ (hHeld.1))).trans (hHeld.1)
                     have HS1_ := (hb.cell (World.block_lt_of_cell? _ _ (hHeld.2.1))).trans (hHeld.2.1)
                     have HS2_ := (hb.cell (World.block_lt_of_cell? _ _ (hHeld.2.2.1))).trans (hHeld.2.2.1)
                     have HS3_ := (hb.cell (World.block_lt_of_cell? _ _ (hHeld.2.2.2))).trans (hHeld.2.2.2)
                     refine ⟨_, rfl, ?_⟩
                     have n0_ := Aside0.mk (Kd.R_below (by (with_reducible repeat (first | apply Kd.R_alloc | apply Kd.R_drewN | apply Kd.R_drew)); exact HO_5.out) hb)
                     have n1_ := Aside0.mk (Kd.R_below (by (with_reducible repeat (first | apply Kd.R_alloc | apply Kd.R_drewN | apply Kd.R_drew)); exact HO_9.out) hb)
                     have n2_ := Aside0.mk (Kd.C_below (by repeat (first | (with_reducible exact HR222.out) | (with_reducible refine Kd.C_alloc ?_ _) | (with_reducible refine Kd.C_drewN ?_ _) | (with_reducible refine Kd.C_drew ?_) | exact HR222.out)) hb)
                     have n3_ := Aside0.mk (Kd.C_below (by repeat (first | (with_reducible exact HR226.out) | (with_reducible refine Kd.C_alloc ?_ _) | (with_reducible refine Kd.C_drewN ?_ _) | (with_reducible refine Kd.C_drew ?_) | exact HR226.out)) hb)
                     have n4_ := Aside0.mk (Kd.C_below (by repeat (first | (with_reducible exact HR233.out) | (with_reducible refine Kd.C_alloc ?_ _) | (with_reducible refine Kd.C_drewN ?_ _) | (with_reducible refine Kd.C_drew ?_) | exact HR233.out)) hb)
                     have n5_ := Aside0.mk (Kd.C_below (by repeat (first | (with_reducible exact HR237.out) | (with_reducible refine Kd.C_alloc ?_ _) | (with_reducible refine Kd.C_drewN ?_ _) | (with_reducible refine Kd.C_drew ?_) | exact HR237.out)) hb)
                     have n6_ := Aside0.mk (below_step (by repeat (first | (with_reducible first | exact HB.out | apply below_alloc | apply pw_below_drewN | apply below_drew1) | exact HB.out)) hb)
                     clear HO_5
                     clear HO_9
                     clear HR222
                     clear HR226
                     clear HR233
                     clear HR237
                     clear HB
                     have HO_5 := n0_
                     have HO_9 := n1_
                     have HR222 := n2_
                     have HR226 := n3_
                     have HR233 := n4_
                     have HR237 := n5_
                     have HB := n6_
                     clear n0_ n1_ n2_ n3_ n4_ n5_ n6_
                     (try clear hb)
                     (try clear hb2)
                     (try clear hk)
                     (try clear hi)
                     refine hK.out _ _ ⟨HS0_, HS1_, HS2_, HS3_⟩ (fun hHeld => ?_)
                     clear hK K
                     refine norm_ (a' := ?_) ?_ ?_
                     rotate_left
                     ·show Act.put _ (some 164) _ = _
                      simp only [Act.put, List.setIfInBounds_toArray, List.set_cons_zero, List.set_cons_succ, i64_w, i32_w]; rfl
                     refine pure_ (i := 45) (N := some 165) (v := ?_) (a' := ?_) (msk 46 1) rfl rfl (any_of HT_.out (by kernel_rfl)) (fun _ _ _ h => h) (Or.inl ⟨by rfl, ?_⟩) ?_ ?_
                     rotate_left
                     ·intro w'; go_simp; with_reducible rfl
                     rotate_left
                     ·simp only [Act.put, List.setIfInBounds_toArray, List.set_cons_zero, List.set_cons_succ, i64_w, i32_w]; rfl
                     refine pure_ (i := 46) (N := some 4) (v := ?_) (a' := ?_) (msk 47 0) rfl rfl (any_of HT_.out (by kernel_rfl)) (fun _ _ _ h => h) (Or.inl ⟨by rfl, ?_⟩) ?_ ?_
                     rotate_left
                     ·intro w'; go_simp; with_reducible rfl
                     rotate_left
                     ·simp only [Act.put, List.setIfInBounds_toArray, List.set_cons_zero, List.set_cons_succ, i64_w, i32_w]; rfl
                     refine done_ (done_of HT_.out (by kernel_rfl)) ?_
                     try go_wp2
                     go_ret
                     exact ⟨by first | rfl | (simp [errW_none, errW_some] <;> rfl) | (simp only [← hji69]; first | rfl | (simp [errW_none, errW_some] <;> rfl)) | (simp [*, errW_none, errW_some] <;> rfl), by repeat (first | (with_reducible first | exact HB.out | apply below_alloc | apply pw_below_drewN | apply below_drew1) | exact HB.out)⟩
                    ·replace c75 := Bool.eq_false_iff.mpr c75
                     subst c75
                     have H1 : (some false) = some r := by rw [if_neg (show ¬ (false = true) by decide)] at H; exact H
                     clear H
                     have H := H1
                     clear H1
                     obtain rfl := Option.some.inj H
                     have p199 : 0 ≤ (t188 : Int) := of_decide_eq_true (by first | (with_reducible assumption) | assumption)
                     have q199 : t188 < (t185.length : Int) := of_decide_eq_true (by first | (with_reducible assumption) | assumption)
                     obtain ⟨ad199, e199, hx199_0, hx199_1⟩ := at_T32 (Kd.R_reads' HO_5.out).2.2 t188 p199 q199
                     cases e199
                     replace p199 := eq_true p199
                     replace q199 := eq_true q199
                     try go_wp2
                     have n0_ := Aside0.mk (Kd.R_drew HO_5.out)
                     have n1_ := Aside0.mk (Kd.R_drew HO_9.out)
                     have n2_ := Aside0.mk (below_drew1 HB.out)
                     clear HO_5
                     clear HO_9
                     clear HB
                     have HO_5 := n0_
                     have HO_9 := n1_
                     have HB := n2_
                     clear n0_ n1_ n2_
                     obtain ⟨Ao85, co85, eo85⟩ := Kd.R_slice HO_9.out
                     (first | subst eo85 | (injection eo85 with f1_ f2_ f3_; have f4_ := f1_.symm; have f5_ := f3_.symm; clear f1_ f2_ f3_; subst f4_; subst f5_))
                     have q86 : (t188 : Int) ≤ ((t190.length : Int) : Int) := of_decide_eq_true (by first | (with_reducible assumption) | assumption)
                     obtain ⟨i086, hi086, _, hsz86, _⟩ := info_parts info32
                     have hroom86 : t190.length ≤ co85 := (Kd.R_reads' HO_9.out).2.1
                     have hC86 : Kd.C k32 _ Ao85 t190.length t190 := (Kd.R_reads' HO_9.out).2.2
                     have hcut86 := cut_to (P := Try.prog) 23 32 .i64 Try.underlying23 hi086 Ao85 t190.length co85 t188 (of_decide_eq_true (by first | (with_reducible assumption) | assumption)) q86 hroom86
                     have hr86 := Kd.C_take (m := (t188 : Int).toNat) hC86 (by omega)
                     have hy86 : y219.length = (t188 : Int).toNat := (by rw [Ny219.out, List.length_take]; omega)
                     rw [← Ny219.out] at hr86
                     rw [← hy86] at hcut86
                     have HR222 := Aside0.mk hr86
                     have HC222 := Aside0.mk (show y219.length ≤ co85 from by omega)
                     clear hr86 hC86 hroom86 hi086 hsz86
                     have KY86 := Aside0.mk hy86
                     clear hy86
                     have KL86 := Aside0.mk (show (t188 : Int).toNat ≤ t190.length from by omega)
                     replace q86 := eq_true q86
                     have q87 : (t188 : Int) ≤ ((t185.length : Int) : Int) := of_decide_eq_true (by first | (with_reducible assumption) | assumption)
                     obtain ⟨i087, hi087, _, hsz87, _⟩ := info_parts info32
                     have hroom87 : t185.length ≤ co9 := (Kd.R_reads' HO_5.out).2.1
                     have hC87 : Kd.C k32 _ (some ad199) t185.length t185 := (Kd.R_reads' HO_5.out).2.2
                     have hcut87 := cut_to (P := Try.prog) 23 32 .i64 Try.underlying23 hi087 (some ad199) t185.length co9 t188 (of_decide_eq_true (by first | (with_reducible assumption) | assumption)) q87 hroom87
                     have hr87 := Kd.C_take (m := (t188 : Int).toNat) hC87 (by omega)
                     have hy87 : y223.length = (t188 : Int).toNat := (by rw [Ny223.out, List.length_take]; omega)
                     rw [← Ny223.out] at hr87
                     rw [← hy87] at hcut87
                     have HR226 := Aside0.mk hr87
                     have HC226 := Aside0.mk (show y223.length ≤ co9 from by omega)
                     clear hr87 hC87 hroom87 hi087 hsz87
                     have KY87 := Aside0.mk hy87
                     clear hy87
                     have KL87 := Aside0.mk (show (t188 : Int).toNat ≤ t185.length from by omega)
                     replace q87 := eq_true q87
                     have p228 : 0 ≤ (t188 : Int) := of_decide_eq_true (by first | (with_reducible assumption) | assumption)
                     have q228 : t188 < (t190.length : Int) := of_decide_eq_true (by first | (with_reducible assumption) | assumption)
                     obtain ⟨ad228, e228, hx228_0, hx228_1⟩ := at_T32 (Kd.R_reads' HO_9.out).2.2 t188 p228 q228
                     cases e228
                     replace p228 := eq_true p228
                     replace q228 := eq_true q228
                     have p229 : 0 ≤ (t188 : Int) := of_decide_eq_true (by first | (with_reducible assumption) | assumption)
                     have q229 : t188 < (t185.length : Int) := of_decide_eq_true (by first | (with_reducible assumption) | assumption)
                     obtain ⟨ad229, e229, hx229_0, hx229_1⟩ := at_T32 (Kd.R_reads' HO_5.out).2.2 t188 p229 q229
                     obtain rfl : ad199 = ad229 := (by injection e229)
                     replace p229 := eq_true p229
                     replace q229 := eq_true q229
                     refine start_ (n := 47) (S := fun w' => w'.cell? (ad228.add ((t188).toNat * 2)) = some (.int .i64 ((rd_T32 t190 t188).f0)) ∧ w'.cell? ⟨(ad228.add ((t188).toNat * 2)).block, (ad228.add ((t188).toNat * 2)).off + 1, none⟩ = some (.int .i64 ((rd_T32 t190 t188).f1)) ∧ w'.cell? (ad199.add ((t188).toNat * 2)) = some (.int .i64 ((rd_T32 t185 t188).f0)) ∧ w'.cell? ⟨(ad199.add ((t188).toNat * 2)).block, (ad199.add ((t188).toNat * 2)).off + 1, none⟩ = some (.int .i64 ((rd_T32 t185 t188).f1))) (ds := []) (msk 0 47) (by kernel_rfl) rfl rfl ⟨hx228_0, hx228_1, hx229_0, hx229_1⟩ (fun hHeld => ?_); refine with_tabW rickyardlaw5_RunsFirst.tab16 rickyardlaw5_RunsFirst.bits16 (fun HT_ HW_ => ?_)
                     generalize wr.drew = w84 at HO_5 HO_9 HB HR222 HR226 hx228_0 hx228_1 hx229_0 hx229_1 hHeld ⊢
                     refine pure_ (i := 0) (N := some 120) (v := ?_) (a' := ?_) (msk 1 46) rfl rfl (any_of HT_.out (by kernel_rfl)) (fun _ _ _ h => h) (Or.inl ⟨by rfl, ?_⟩) ?_ ?_
                     rotate_left
                     ·intro w'; go_simp; with_reducible rfl
                     rotate_left
                     ·simp only [Act.put, List.setIfInBounds_toArray, List.set_cons_zero, List.set_cons_succ, i64_w, i32_w]; rfl
                     refine pure_ (i := 1) (N := some 121) (v := ?_) (a' := ?_) (msk 2 45) rfl rfl (any_of HT_.out (by kernel_rfl)) (fun _ _ _ h => h) (Or.inl ⟨by rfl, ?_⟩) ?_ ?_
                     rotate_left
                     ·intro w'; go_simp; with_reducible rfl
                     rotate_left
                     ·simp only [Act.put, List.setIfInBounds_toArray, List.set_cons_zero, List.set_cons_succ, i64_w, i32_w]; rfl
                     refine pure_ (i := 2) (N := some 122) (v := ?_) (a' := ?_) (msk 3 44) rfl rfl (any_of HT_.out (by kernel_rfl)) (fun _ _ _ h => h) (Or.inl ⟨by rfl, ?_⟩) ?_ ?_
                     rotate_left
                     ·intro w'; go_simp; with_reducible rfl
                     rotate_left
                     ·simp only [Act.put, List.setIfInBounds_toArray, List.set_cons_zero, List.set_cons_succ, i64_w, i32_w]; rfl
                     refine pure_ (i := 3) (N := some 123) (v := ?_) (a' := ?_) (msk 4 43) rfl rfl (any_of HT_.out (by kernel_rfl)) (fun _ _ _ h => h) (Or.inl ⟨by rfl, ?_⟩) ?_ ?_
                     rotate_left
                     ·intro w'; go_simp; with_reducible rfl
                     rotate_left
                     ·simp only [Act.put, List.setIfInBounds_toArray, List.set_cons_zero, List.set_cons_succ, i64_w, i32_w]; rfl
                     refine pure_ (i := 4) (N := some 124) (v := ?_) (a' := ?_) (msk 5 42) rfl rfl (any_of HT_.out (by kernel_rfl)) (fun _ _ _ h => h) (Or.inl ⟨by rfl, ?_⟩) ?_ ?_
                     rotate_left
                     ·intro w'; go_simp; with_reducible rfl
                     rotate_left
                     ·simp only [Act.put, List.setIfInBounds_toArray, List.set_cons_zero, List.set_cons_succ, i64_w, i32_w]; rfl
                     refine pure_ (i := 5) (N := some 125) (v := ?_) (a' := ?_) (msk 6 41) rfl rfl (any_of HT_.out (by kernel_rfl)) (fun _ _ _ h => h) (Or.inl ⟨by rfl, ?_⟩) ?_ ?_
                     rotate_left
                     ·intro w'; go_simp; with_reducible rfl
                     rotate_left
                     ·simp only [Act.put, List.setIfInBounds_toArray, List.set_cons_zero, List.set_cons_succ, i64_w, i32_w]; rfl
                     refine pure_ (i := 6) (N := some 126) (v := ?_) (a' := ?_) (msk 7 40) rfl rfl (any_of HT_.out (by kernel_rfl)) (fun _ _ _ h => h) (Or.inl ⟨by rfl, ?_⟩) ?_ ?_
                     rotate_left
                     ·intro w'; go_simp; with_reducible rfl
                     rotate_left
                     ·simp only [Act.put, List.setIfInBounds_toArray, List.set_cons_zero, List.set_cons_succ, i64_w, i32_w]; rfl
                     refine pure_ (i := 7) (N := some 127) (v := ?_) (a' := ?_) (msk 8 39) rfl rfl (any_of HT_.out (by kernel_rfl)) (fun _ _ _ h => h) (Or.inl ⟨by rfl, ?_⟩) ?_ ?_
                     rotate_left
                     ·intro w'; go_simp; with_reducible rfl
                     rotate_left
                     ·simp only [Act.put, List.setIfInBounds_toArray, List.set_cons_zero, List.set_cons_succ, i64_w, i32_w]; rfl
                     refine pure_ (i := 8) (N := some 128) (v := ?_) (a' := ?_) (msk 9 38) rfl rfl (any_of HT_.out (by kernel_rfl)) (fun _ _ _ h => h) (Or.inl ⟨by rfl, ?_⟩) ?_ ?_
                     rotate_left
                     ·intro w'; go_simp; with_reducible rfl
                     rotate_left
                     ·simp only [Act.put, List.setIfInBounds_toArray, List.set_cons_zero, List.set_cons_succ, i64_w, i32_w]; rfl
                     refine pure_ (i := 9) (N := some 129) (v := ?_) (a' := ?_) (msk 10 37) rfl rfl (any_of HT_.out (by kernel_rfl)) (fun _ _ _ h => h) (Or.inl ⟨by rfl, ?_⟩) ?_ ?_
                     rotate_left
                     ·intro w'; go_simp; with_reducible rfl
                     rotate_left
                     ·simp only [Act.put, List.setIfInBounds_toArray, List.set_cons_zero, List.set_cons_succ, i64_w, i32_w]; rfl
                     refine pure_ (i := 10) (N := some 130) (v := ?_) (a' := ?_) (msk 11 36) rfl rfl (any_of HT_.out (by kernel_rfl)) (fun _ _ _ h => h) (Or.inl ⟨by rfl, ?_⟩) ?_ ?_
                     rotate_left
                     ·intro w'; go_simp; with_reducible rfl
                     rotate_left
                     ·simp only [Act.put, List.setIfInBounds_toArray, List.set_cons_zero, List.set_cons_succ, i64_w, i32_w]; rfl
                     refine pure_ (i := 11) (N := some 131) (v := ?_) (a' := ?_) (msk 12 35) rfl rfl (any_of HT_.out (by kernel_rfl)) (fun _ _ _ h => h) (Or.inl ⟨by rfl, ?_⟩) ?_ ?_
                     rotate_left
                     ·intro w'; go_simp; with_reducible rfl
                     rotate_left
                     ·simp only [Act.put, List.setIfInBounds_toArray, List.set_cons_zero, List.set_cons_succ, i64_w, i32_w]; rfl
                     refine one_ (i := 12) (N := some 132) (msk 13 34) rfl rfl (one_of HT_.out (by kernel_rfl)) (by decide) (fun K hK => ?_)
                     refine goes_ Try.func17 (by kernel_rfl) rfl #[.slice (some ad228) y219.length co85, .slice (some ad199) y223.length co9] (by rfl) rfl rfl (by (try simp only [List.map_toArray, List.map_cons, List.map_nil]); first | done | rfl | (simp only [List.length_drop, List.length_take]; rfl)) ?_
                     with_reducible refine (rickyardref1_SameRuns.calls k2 _ _ y219 _ _ y223 true _ ?side1 ?side2 ?side3 ?side4 A65.out).mono ?_
                     (case side1 => repeat (first | exact (by repeat (first | (with_reducible exact HR222.out) | (with_reducible refine Kd.C_alloc ?_ _) | (with_reducible refine Kd.C_drewN ?_ _) | (with_reducible refine Kd.C_drew ?_) | exact HR222.out)) | (with_reducible refine Kd.C_alloc ?_ _) | (with_reducible refine Kd.C_drewN ?_ _) | (with_reducible refine Kd.C_drew ?_)))
                     (case side2 => exact HC222.out)
                     (case side3 => repeat (first | exact (by repeat (first | (with_reducible exact HR226.out) | (with_reducible refine Kd.C_alloc ?_ _) | (with_reducible refine Kd.C_drewN ?_ _) | (with_reducible refine Kd.C_drew ?_) | exact HR226.out)) | (with_reducible refine Kd.C_alloc ?_ _) | (with_reducible refine Kd.C_drewN ?_ _) | (with_reducible refine Kd.C_drew ?_)))
                     (case side4 => exact HC226.out)
                     rintro e w' ⟨rfl, ⟨nd, rfl⟩⟩
                     refine ⟨_, rfl, ?_⟩
                     have q88 : ((ji69) : Int) ≤ ((t190.length : Int) : Int) := of_decide_eq_true (by first | (with_reducible assumption) | assumption)
                     obtain ⟨i088, hi088, _, hsz88, _⟩ := info_parts info32
                     have hroom88 : t190.length ≤ co85 := (Kd.R_reads' HO_9.out).2.1
                     have hC88 : Kd.C k32 _ (some ad228) t190.length t190 := (Kd.R_reads' HO_9.out).2.2
                     have q088 : (0 : Int) ≤ ((ji69) : Int) := of_decide_eq_true (by first | (with_reducible assumption) | assumption)
                     have hcut88 := cut_from (P := Try.prog) 23 32 .i64 Try.underlying23 hi088 2 hsz88 (some ad228) t190.length co85 (ji69) q088 q88
                     have hr88 := Kd.C_drop (m := ((ji69) : Int).toNat) (c := co85) hC88 (by omega) hroom88
                     obtain ⟨A88, hA88⟩ : ∃ A1, A1 = (if co85 = ((ji69) : Int).toNat then (some ad228) else ((some ad228) : Option Addr).map (·.add (((ji69) : Int).toNat * 2))) := ⟨_, rfl⟩
                     obtain ⟨c88, hc88⟩ : ∃ c1, c1 = co85 - ((ji69) : Int).toNat := ⟨_, rfl⟩
                     have hy88 : y230.length = t190.length - ((ji69) : Int).toNat := (by rw [Ny230.out, List.length_drop] <;> omega)
                     rw [show (t190).drop ((ji69) : Int).toNat = y230 from Ny230.out.symm] at hr88
                     replace hr88 : Kd.C k32 _ A88 y230.length y230 := (by rw [hA88]; exact hr88)
                     rw [← hy88, ← hA88, ← hc88] at hcut88
                     have HR233 := Aside0.mk hr88
                     have HC233 := Aside0.mk (show y230.length ≤ c88 from by rw [hy88, hc88]; exact Nat.sub_le_sub_right hroom88 _)
                     clear hr88 hC88 hroom88 hi088 hsz88 hc88
                     have KY88 := Aside0.mk hy88
                     have KA88 := Aside0.mk hA88
                     clear hy88 hA88
                     have KL88 := Aside0.mk (show ((ji69) : Int).toNat ≤ t190.length from by omega)
                     replace q88 := eq_true q88
                     have q89 : ((ji69) : Int) ≤ ((t185.length : Int) : Int) := of_decide_eq_true (by first | (with_reducible assumption) | assumption)
                     obtain ⟨i089, hi089, _, hsz89, _⟩ := info_parts info32
                     have hroom89 : t185.length ≤ co9 := (Kd.R_reads' HO_5.out).2.1
                     have hC89 : Kd.C k32 _ (some ad199) t185.length t185 := (Kd.R_reads' HO_5.out).2.2
                     have q089 : (0 : Int) ≤ ((ji69) : Int) := of_decide_eq_true (by first | (with_reducible assumption) | assumption)
                     have hcut89 := cut_from (P := Try.prog) 23 32 .i64 Try.underlying23 hi089 2 hsz89 (some ad199) t185.length co9 (ji69) q089 q89
                     have hr89 := Kd.C_drop (m := ((ji69) : Int).toNat) (c := co9) hC89 (by omega) hroom89
                     obtain ⟨A89, hA89⟩ : ∃ A1, A1 = (if co9 = ((ji69) : Int).toNat then (some ad199) else ((some ad199) : Option Addr).map (·.add (((ji69) : Int).toNat * 2))) := ⟨_, rfl⟩
                     obtain ⟨c89, hc89⟩ : ∃ c1, c1 = co9 - ((ji69) : Int).toNat := ⟨_, rfl⟩
                     have hy89 : y234.length = t185.length - ((ji69) : Int).toNat := (by rw [Ny234.out, List.length_drop] <;> omega)
                     rw [show (t185).drop ((ji69) : Int).toNat = y234 from Ny234.out.symm] at hr89
                     replace hr89 : Kd.C k32 _ A89 y234.length y234 := (by rw [hA89]; exact hr89)
                     rw [← hy89, ← hA89, ← hc89] at hcut89
                     have HR237 := Aside0.mk hr89
                     have HC237 := Aside0.mk (show y234.length ≤ c89 from by rw [hy89, hc89]; exact Nat.sub_le_sub_right hroom89 _)
                     clear hr89 hC89 hroom89 hi089 hsz89 hc89
                     have KY89 := Aside0.mk hy89
                     have KA89 := Aside0.mk hA89
                     clear hy89 hA89
                     have KL89 := Aside0.mk (show ((ji69) : Int).toNat ≤ t185.length from by omega)
                     replace q89 := eq_true q89
                     refine hK.out _ _ ⟨hHeld.1, hHeld.2.1, hHeld.2.2.1, hHeld.2.2.2⟩ (fun hHeld => ?_)
                     clear hK K
                     refine norm_ (a' := ?_) ?_ ?_
                     rotate_left
                     ·show Act.put _ (some 132) _ = _
                      simp only [Act.put, List.setIfInBounds_toArray, List.set_cons_zero, List.set_cons_succ, i64_w, i32_w]; rfl
                     refine pure_ (i := 13) (N := some 133) (v := ?_) (a' := ?_) (msk 14 33) rfl rfl (any_of HT_.out (by kernel_rfl)) (fun _ _ _ h => h) (Or.inl ⟨by rfl, ?_⟩) ?_ ?_
                     rotate_left
                     ·intro w'; go_simp; with_reducible rfl
                     rotate_left
                     ·simp only [Act.put, List.setIfInBounds_toArray, List.set_cons_zero, List.set_cons_succ, i64_w, i32_w]; rfl
                     refine pure_ (i := 14) (N := some 134) (v := ?_) (a' := ?_) (msk 15 32) rfl rfl (any_of HT_.out (by kernel_rfl)) (fun _ _ _ h => h) (Or.inl ⟨by rfl, ?_⟩) ?_ ?_
                     rotate_left
                     ·intro w'; go_simp; with_reducible rfl
                     rotate_left
                     ·simp only [Act.put, List.setIfInBounds_toArray, List.set_cons_zero, List.set_cons_succ, i64_w, i32_w]; rfl
                     refine pure_ (i := 15) (N := some 135) (v := ?_) (a' := ?_) (msk 16 31) rfl rfl (any_of HT_.out (by kernel_rfl)) (fun _ _ _ h => h) (Or.inl ⟨by rfl, ?_⟩) ?_ ?_
                     rotate_left
                     ·intro w'; go_simp; with_reducible rfl
                     rotate_left
                     ·simp only [Act.put, List.setIfInBounds_toArray, List.set_cons_zero, List.set_cons_succ, i64_w, i32_w]; rfl
                     refine pure_ (i := 16) (N := some 136) (v := ?_) (a' := ?_) (msk 17 30) rfl rfl (any_of HT_.out (by kernel_rfl)) (fun _ _ _ h => h) (Or.inl ⟨by rfl, ?_⟩) ?_ ?_
                     rotate_left
                     ·intro w'; go_simp; with_reducible rfl
                     rotate_left
                     ·simp only [Act.put, List.setIfInBounds_toArray, List.set_cons_zero, List.set_cons_succ, i64_w, i32_w]; rfl
                     refine pure_ (i := 17) (N := some 137) (v := ?_) (a' := ?_) (msk 18 29) rfl rfl (any_of HT_.out (by kernel_rfl)) (fun _ _ _ h => h) (Or.inl ⟨by rfl, ?_⟩) ?_ ?_
                     rotate_left
                     ·intro w'; go_simp; with_reducible rfl
                     rotate_left
                     ·simp only [Act.put, List.setIfInBounds_toArray, List.set_cons_zero, List.set_cons_succ, i64_w, i32_w]; rfl
                     refine pure_ (i := 19) (N := some 139) (v := ?_) (a' := ?_) #[tt,tt,tt,tt,tt,tt,tt,tt,tt,tt,tt,tt,tt,tt,tt,tt,tt,tt,ff,tt,ff,ff,ff,ff,ff,ff,ff,ff,ff,ff,ff,ff,ff,ff,ff,ff,ff,ff,ff,ff,ff,ff,ff,ff,ff,ff,ff] rfl rfl (any_of HT_.out (by kernel_rfl)) (fun _ _ _ h => h) (Or.inl ⟨by rfl, ?_⟩) ?_ ?_
                     rotate_left
                     ·intro w'; go_simp; with_reducible rfl
                     rotate_left
                     ·simp only [Act.put, List.setIfInBounds_toArray, List.set_cons_zero, List.set_cons_succ, i64_w, i32_w]; rfl
                     refine pure_ (i := 20) (N := some 140) (v := ?_) (a' := ?_) #[tt,tt,tt,tt,tt,tt,tt,tt,tt,tt,tt,tt,tt,tt,tt,tt,tt,tt,ff,tt,tt,ff,ff,ff,ff,ff,ff,ff,ff,ff,ff,ff,ff,ff,ff,ff,ff,ff,ff,ff,ff,ff,ff,ff,ff,ff,ff] rfl rfl (any_of HT_.out (by kernel_rfl)) (fun _ _ _ h => h) (Or.inl ⟨by rfl, ?_⟩) ?_ ?_
                     rotate_left
                     ·intro w'; go_simp; with_reducible rfl
                     rotate_left
                     ·simp only [Act.put, List.setIfInBounds_toArray, List.set_cons_zero, List.set_cons_succ, i64_w, i32_w]; rfl
                     refine pure_ (i := 21) (N := some 141) (v := ?_) (a' := ?_) #[tt,tt,tt,tt,tt,tt,tt,tt,tt,tt,tt,tt,tt,tt,tt,tt,tt,tt,ff,tt,tt,tt,ff,ff,ff,ff,ff,ff,ff,ff,ff,ff,ff,ff,ff,ff,ff,ff,ff,ff,ff,ff,ff,ff,ff,ff,ff] rfl rfl (any_of HT_.out (by kernel_rfl)) (fun _ _ _ h => h) (Or.inl ⟨by rfl, ?_⟩) ?_ ?_
                     rotate_left
                     ·intro w'; go_simp; with_reducible rfl
                     rotate_left
                     ·simp only [Act.put, List.setIfInBounds_toArray, List.set_cons_zero, List.set_cons_succ, i64_w, i32_w]; rfl
                     refine pure_ (i := 22) (N := some 142) (v := ?_) (a' := ?_) #[tt,tt,tt,tt,tt,tt,tt,tt,tt,tt,tt,tt,tt,tt,tt,tt,tt,tt,ff,tt,tt,tt,tt,ff,ff,ff,ff,ff,ff,ff,ff,ff,ff,ff,ff,ff,ff,ff,ff,ff,ff,ff,ff,ff,ff,ff,ff] rfl rfl (any_of HT_.out (by kernel_rfl)) (fun _ _ _ h => h) (Or.inl ⟨by rfl, ?_⟩) ?_ ?_
                     rotate_left
                     ·intro w'; go_simp; with_reducible rfl
                     rotate_left
                     ·simp only [Act.put, List.setIfInBounds_toArray, List.set_cons_zero, List.set_cons_succ, i64_w, i32_w]; rfl
                     refine pure_ (i := 23) (N := some 143) (v := ?_) (a' := ?_) #[tt,tt,tt,tt,tt,tt,tt,tt,tt,tt,tt,tt,tt,tt,tt,tt,tt,tt,ff,tt,tt,tt,tt,tt,ff,ff,ff,ff,ff,ff,ff,ff,ff,ff,ff,ff,ff,ff,ff,ff,ff,ff,ff,ff,ff,ff,ff] rfl rfl (any_of HT_.out (by kernel_rfl)) (fun _ _ _ h => h) (Or.inl ⟨by rfl, ?_⟩) ?_ ?_
                     rotate_left
                     ·intro w'; go_simp; with_reducible rfl
                     rotate_left
                     ·simp only [Act.put, List.setIfInBounds_toArray, List.set_cons_zero, List.set_cons_succ, i64_w, i32_w]; rfl
                     refine pure_ (i := 24) (N := some 144) (v := ?_) (a' := ?_) #[tt,tt,tt,tt,tt,tt,tt,tt,tt,tt,tt,tt,tt,tt,tt,tt,tt,tt,ff,tt,tt,tt,tt,tt,tt,ff,ff,ff,ff,ff,ff,ff,ff,ff,ff,ff,ff,ff,ff,ff,ff,ff,ff,ff,ff,ff,ff] rfl rfl (any_of HT_.out (by kernel_rfl)) (fun _ _ _ h => h) (Or.inl ⟨by rfl, ?_⟩) ?_ ?_
                     rotate_left
                     ·intro w'; go_simp; with_reducible rfl
                     rotate_left
                     ·simp only [Act.put, List.setIfInBounds_toArray, List.set_cons_zero, List.set_cons_succ, i64_w, i32_w]; rfl
                     refine pure_ (i := 25) (N := some 145) (v := ?_) (a' := ?_) #[tt,tt,tt,tt,tt,tt,tt,tt,tt,tt,tt,tt,tt,tt,tt,tt,tt,tt,ff,tt,tt,tt,tt,tt,tt,tt,ff,ff,ff,ff,ff,ff,ff,ff,ff,ff,ff,ff,ff,ff,ff,ff,ff,ff,ff,ff,ff] rfl rfl (any_of HT_.out (by kernel_rfl)) (fun _ _ _ h => h) (Or.inl ⟨by rfl, ?_⟩) ?_ ?_
                     rotate_left
                     ·intro w'; go_simp; with_reducible rfl
                     rotate_left
                     ·simp only [Act.put, List.setIfInBounds_toArray, List.set_cons_zero, List.set_cons_succ, i64_w, i32_w]; rfl
                     refine pure_ (i := 27) (N := some 147) (v := ?_) (a' := ?_) #[tt,tt,tt,tt,tt,tt,tt,tt,tt,tt,tt,tt,tt,tt,tt,tt,tt,tt,ff,tt,tt,tt,tt,tt,tt,tt,ff,tt,ff,ff,ff,ff,ff,ff,ff,ff,ff,ff,ff,ff,ff,ff,ff,ff,ff,ff,ff] rfl rfl (any_of HT_.out (by kernel_rfl)) (fun _ _ _ h => h) (Or.inl ⟨by rfl, ?_⟩) ?_ ?_
                     rotate_left
                     ·intro w'; go_simp; with_reducible rfl
                     rotate_left
                     ·simp only [Act.put, List.setIfInBounds_toArray, List.set_cons_zero, List.set_cons_succ, i64_w, i32_w]; rfl
                     refine take_ (i := 18) (N := some 138) (v := ?_) (a' := ?_) #[tt,tt,tt,tt,tt,tt,tt,tt,tt,tt,tt,tt,tt,tt,tt,tt,tt,tt,tt,tt,tt,tt,tt,tt,tt,tt,ff,tt,ff,ff,ff,ff,ff,ff,ff,ff,ff,ff,ff,ff,ff,ff,ff,ff,ff,ff,ff] rfl rfl (take_ofW HT_.out HW_.out (by kernel_rfl)) (fun _ _ _ h => h) (Or.inl ⟨by rfl, ?_⟩) hHeld ?_ ?_
                     rotate_left
                     ·rintro w' ⟨s0, s1, s2, s3⟩
                      go_simp
                      with_reducible rfl
                     rotate_left
                     ·simp only [Act.put, List.setIfInBounds_toArray, List.set_cons_zero, List.set_cons_succ, i64_w, i32_w]; rfl
                     refine take_ (i := 26) (N := some 146) (v := ?_) (a' := ?_) (msk 28 19) rfl rfl (take_ofW HT_.out HW_.out (by kernel_rfl)) (fun _ _ _ h => h) (Or.inl ⟨by rfl, ?_⟩) hHeld ?_ ?_
                     rotate_left
                     ·rintro w' ⟨s0, s1, s2, s3⟩
                      go_simp
                      with_reducible rfl
                     rotate_left
                     ·simp only [Act.put, List.setIfInBounds_toArray, List.set_cons_zero, List.set_cons_succ, i64_w, i32_w]; rfl
                     refine pure_ (i := 28) (N := some 148) (v := ?_) (a' := ?_) (msk 29 18) rfl rfl (any_of HT_.out (by kernel_rfl)) (fun _ _ _ h => h) (Or.inl ⟨by rfl, ?_⟩) ?_ ?_
                     rotate_left
                     ·intro w'; go_simp; with_reducible rfl
                     rotate_left
                     ·simp only [Act.put, List.setIfInBounds_toArray, List.set_cons_zero, List.set_cons_succ, i64_w, i32_w]; rfl
                     refine pure_ (i := 29) (N := some 149) (v := ?_) (a' := ?_) (msk 30 17) rfl rfl (any_of HT_.out (by kernel_rfl)) (fun _ _ _ h => h) (Or.inl ⟨by rfl, ?_⟩) ?_ ?_
                     rotate_left
                     ·intro w'; go_simp; with_reducible rfl
                     rotate_left
                     ·simp only [Act.put, List.setIfInBounds_toArray, List.set_cons_zero, List.set_cons_succ, i64_w, i32_w]; rfl
                     refine pure_ (i := 30) (N := some 150) (v := ?_) (a' := ?_) (msk 31 16) rfl rfl (any_of HT_.out (by kernel_rfl)) (fun _ _ _ h => h) (Or.inl ⟨by rfl, ?_⟩) ?_ ?_
                     rotate_left
                     ·intro w'; go_simp; with_reducible rfl
                     rotate_left
                     ·simp only [Act.put, List.setIfInBounds_toArray, List.set_cons_zero, List.set_cons_succ, i64_w, i32_w]; rfl
                     refine pure_ (i := 31) (N := some 151) (v := ?_) (a' := ?_) (msk 32 15) rfl rfl (any_of HT_.out (by kernel_rfl)) (fun _ _ _ h => h) (Or.inl ⟨by rfl, ?_⟩) ?_ ?_
                     rotate_left
                     ·intro w'; go_simp; with_reducible rfl
                     rotate_left
                     ·simp only [Act.put, List.setIfInBounds_toArray, List.set_cons_zero, List.set_cons_succ, i64_w, i32_w]; rfl
                     refine pure_ (i := 32) (N := some 152) (v := ?_) (a' := ?_) (msk 33 14) rfl rfl (any_of HT_.out (by kernel_rfl)) (fun _ _ _ h => h) (Or.inl ⟨by rfl, ?_⟩) ?_ ?_
                     rotate_left
                     ·intro w'; go_simp; with_reducible rfl
                     rotate_left
                     ·simp only [Act.put, List.setIfInBounds_toArray, List.set_cons_zero, List.set_cons_succ, i64_w, i32_w]; rfl
                     refine pure_ (i := 33) (N := some 153) (v := ?_) (a' := ?_) (msk 34 13) rfl rfl (any_of HT_.out (by kernel_rfl)) (fun _ _ _ h => h) (Or.inl ⟨by rfl, ?_⟩) ?_ ?_
                     rotate_left
                     ·intro w'; go_simp; with_reducible rfl
                     rotate_left
                     ·simp only [Act.put, List.setIfInBounds_toArray, List.set_cons_zero, List.set_cons_succ, i64_w, i32_w]; rfl
                     refine pure_ (i := 34) (N := some 154) (v := ?_) (a' := ?_) (msk 35 12) rfl rfl (any_of HT_.out (by kernel_rfl)) (fun _ _ _ h => h) (Or.inl ⟨by rfl, ?_⟩) ?_ ?_
                     rotate_left
                     ·intro w'; go_simp; with_reducible rfl
                     rotate_left
                     ·simp only [Act.put, List.setIfInBounds_toArray, List.set_cons_zero, List.set_cons_succ, i64_w, i32_w]; rfl
                     refine pure_ (i := 35) (N := some 155) (v := ?_) (a' := ?_) (msk 36 11) rfl rfl (any_of HT_.out (by kernel_rfl)) (fun _ _ _ h => h) (Or.inl ⟨by rfl, ?_⟩) ?_ ?_
                     rotate_left
                     ·intro w'; go_simp; with_reducible rfl
                     rotate_left
                     ·simp only [Act.put, List.setIfInBounds_toArray, List.set_cons_zero, List.set_cons_succ, i64_w, i32_w]; rfl
                     refine pure_ (i := 36) (N := some 156) (v := ?_) (a' := ?_) (msk 37 10) rfl rfl (any_of HT_.out (by kernel_rfl)) (fun _ _ _ h => h) (Or.inl ⟨by rfl, ?_⟩) ?_ ?_
                     rotate_left
                     ·intro w'; go_simp; with_reducible rfl
                     rotate_left
                     ·simp only [Act.put, List.setIfInBounds_toArray, List.set_cons_zero, List.set_cons_succ, i64_w, i32_w]; rfl
                     refine pure_ (i := 37) (N := some 157) (v := ?_) (a' := ?_) (msk 38 9) rfl rfl (any_of HT_.out (by kernel_rfl)) (fun _ _ _ h => h) (Or.inl ⟨by rfl, ?_⟩) ?_ ?_
                     rotate_left
                     ·intro w'; go_simp; with_reducible rfl
                     rotate_left
                     ·simp only [Act.put, List.setIfInBounds_toArray, List.set_cons_zero, List.set_cons_succ, i64_w, i32_w]; rfl
                     refine pure_ (i := 38) (N := some 158) (v := ?_) (a' := ?_) (msk 39 8) rfl rfl (any_of HT_.out (by kernel_rfl)) (fun _ _ _ h => h) (Or.inl ⟨by rfl, ?_⟩) ?_ ?_
                     rotate_left
                     ·intro w'; go_simp; with_reducible rfl
                     rotate_left
                     ·simp only [Act.put, List.setIfInBounds_toArray, List.set_cons_zero, List.set_cons_succ, i64_w, i32_w]; rfl
                     refine pure_ (i := 39) (N := some 159) (v := ?_) (a' := ?_) (msk 40 7) rfl rfl (any_of HT_.out (by kernel_rfl)) (fun _ _ _ h => h) (Or.inl ⟨by rfl, ?_⟩) ?_ ?_
                     rotate_left
                     ·intro w'; go_simp; with_reducible rfl
                     rotate_left
                     ·simp only [Act.put, List.setIfInBounds_toArray, List.set_cons_zero, List.set_cons_succ, i64_w, i32_w]; rfl
                     refine pure_ (i := 40) (N := some 160) (v := ?_) (a' := ?_) (msk 41 6) rfl rfl (any_of HT_.out (by kernel_rfl)) (fun _ _ _ h => h) (Or.inl ⟨by rfl, ?_⟩) ?_ ?_
                     rotate_left
                     ·intro w'; go_simp; with_reducible rfl
                     rotate_left
                     ·simp only [Act.put, List.setIfInBounds_toArray, List.set_cons_zero, List.set_cons_succ, i64_w, i32_w]; rfl
                     refine one_ (i := 41) (N := some 161) (msk 42 5) rfl rfl (one_of HT_.out (by kernel_rfl)) (by decide) (fun K hK => ?_)
                     refine goes_ Try.func17 (by kernel_rfl) rfl #[.slice A88 y230.length c88, .slice A89 y234.length c89] (by rfl) rfl rfl (by (try simp only [List.map_toArray, List.map_cons, List.map_nil]); first | done | rfl | (simp only [List.length_drop, List.length_take]; rfl)) ?_
                     with_reducible refine (rickyardref1_SameRuns.calls k2 _ _ y230 _ _ y234 false _ ?side1 ?side2 ?side3 ?side4 A74.out).mono ?_
                     (case side1 => repeat (first | exact (by repeat (first | (with_reducible exact HR233.out) | (with_reducible refine Kd.C_alloc ?_ _) | (with_reducible refine Kd.C_drewN ?_ _) | (with_reducible refine Kd.C_drew ?_) | exact HR233.out)) | (with_reducible refine Kd.C_alloc ?_ _) | (with_reducible refine Kd.C_drewN ?_ _) | (with_reducible refine Kd.C_drew ?_)))
                     (case side2 => exact HC233.out)
                     (case side3 => repeat (first | exact (by repeat (first | (with_reducible exact HR237.out) | (with_reducible refine Kd.C_alloc ?_ _) | (with_reducible refine Kd.C_drewN ?_ _) | (with_reducible refine Kd.C_drew ?_) | exact HR237.out)) | (with_reducible refine Kd.C_alloc ?_ _) | (with_reducible refine Kd.C_drewN ?_ _) | (with_reducible refine Kd.C_drew ?_)))
                     (case side4 => exact HC237.out)
                     rintro e w' ⟨rfl, ⟨nd, rfl⟩⟩
                     refine ⟨_, rfl, ?_⟩
                     refine hK.out _ _ ⟨hHeld.1, hHeld.2.1, hHeld.2.2.1, hHeld.2.2.2⟩ (fun hHeld => ?_)
                     clear hK K
                     refine norm_ (a' := ?_) ?_ ?_
                     rotate_left
                     ·show Act.put _ (some 161) _ = _
                      simp only [Act.put, List.setIfInBounds_toArray, List.set_cons_zero, List.set_cons_succ, i64_w, i32_w]; rfl
                     refine pure_ (i := 42) (N := some 162) (v := ?_) (a' := ?_) (msk 43 4) rfl rfl (any_of HT_.out (by kernel_rfl)) (fun _ _ _ h => h) (Or.inl ⟨by rfl, ?_⟩) ?_ ?_
                     rotate_left
                     ·intro w'; go_simp; with_reducible rfl
                     rotate_left
                     ·simp only [Act.put, List.setIfInBounds_toArray, List.set_cons_zero, List.set_cons_succ, i64_w, i32_w]; rfl
                     refine pure_ (i := 43) (N := some 163) (v := ?_) (a' := ?_) (msk 44 3) rfl rfl (any_of HT_.out (by kernel_rfl)) (fun _ _ _ h => h) (Or.inl ⟨by rfl, ?_⟩) ?_ ?_
                     rotate_left
                     ·intro w'; go_simp; with_reducible rfl
                     rotate_left
                     ·simp only [Act.put, List.setIfInBounds_toArray, List.set_cons_zero, List.set_cons_succ, i64_w, i32_w]; rfl
                     refine pure_ (i := 44) (N := some 164) (v := undef) (a' := ?_) (msk 45 2) rfl rfl (any_of HT_.out (by kernel_rfl)) (fun _ _ _ h => h) (Or.inr ⟨by rfl, rfl⟩) ?_ ?_
                     rotate_left
                     ·simp only [Act.put, List.setIfInBounds_toArray, List.set_cons_zero, List.set_cons_succ, i64_w, i32_w]; rfl
                     refine pure_ (i := 45) (N := some 165) (v := ?_) (a' := ?_) (msk 46 1) rfl rfl (any_of HT_.out (by kernel_rfl)) (fun _ _ _ h => h) (Or.inl ⟨by rfl, ?_⟩) ?_ ?_
                     rotate_left
                     ·intro w'; go_simp; with_reducible rfl
                     rotate_left
                     ·simp only [Act.put, List.setIfInBounds_toArray, List.set_cons_zero, List.set_cons_succ, i64_w, i32_w]; rfl
                     refine pure_ (i := 46) (N := some 4) (v := ?_) (a' := ?_) (msk 47 0) rfl rfl (any_of HT_.out (by kernel_rfl)) (fun _ _ _ h => h) (Or.inl ⟨by rfl, ?_⟩) ?_ ?_
                     rotate_left
                     ·intro w'; go_simp; with_reducible rfl
                     rotate_left
                     ·simp only [Act.put, List.setIfInBounds_toArray, List.set_cons_zero, List.set_cons_succ, i64_w, i32_w]; rfl
                     refine done_ (done_of HT_.out (by kernel_rfl)) ?_
                     try go_wp2
                     go_ret
                     exact ⟨by first | rfl | (simp [errW_none, errW_some] <;> rfl) | (simp only [← hji69]; first | rfl | (simp [errW_none, errW_some] <;> rfl)) | (simp [*, errW_none, errW_some] <;> rfl), by repeat (first | (with_reducible first | exact HB.out | apply below_alloc | apply pw_below_drewN | apply below_drew1) | exact HB.out)⟩
                   ·rw [if_neg c73] at H
                    exact absurd H (by simp)
                  ·rw [if_neg c71] at H
                   exact absurd H (by simp)
                 ·rw [if_neg c70] at H
                  exact absurd H (by simp)
                ·rw [if_neg c68] at H
                 have c68b0 : (((rd_T32 t190 t188).f0) == (wrap64 (t191 + (wrap64 (1 + (Int.tmod (wrap64 (a1)) 24))))) && (((rd_T32 t190 t188).f1) == (wrap64 (((rd_T32 t185 t188).f1) - (wrap64 (1 + (Int.tmod (wrap64 (a1)) 24))))))) = false := by simpa using c68
                 (try (have c68b1 : decide (((rd_T32 t190 t188).f0) = (wrap64 (t191 + (wrap64 (1 + (Int.tmod (wrap64 (a1)) 24))))) && (((rd_T32 t190 t188).f1) == (wrap64 (((rd_T32 t185 t188).f1) - (wrap64 (1 + (Int.tmod (wrap64 (a1)) 24))))))) = false := by simpa using c68))
                 (try (have c68b2 : (((rd_T32 t190 t188).f0) == (wrap64 (t191 + (wrap64 (1 + (Int.tmod (wrap64 (a1)) 24))))) && (((rd_T32 t190 t188).f1) == (wrap64 (((rd_T32 t185 t188).f1) - (wrap64 (1 + (Int.tmod (wrap64 (a1)) 24))))))) = false := by simpa using c68))
                 (try (have c68b3 : ¬ (((rd_T32 t190 t188).f0) = (wrap64 (t191 + (wrap64 (1 + (Int.tmod (wrap64 (a1)) 24))))) && (((rd_T32 t190 t188).f1) == (wrap64 (((rd_T32 t185 t188).f1) - (wrap64 (1 + (Int.tmod (wrap64 (a1)) 24))))))) := by simpa using c68))
                 clear c68
                 obtain rfl := Option.some.inj H
                 have p199 : 0 ≤ (t188 : Int) := of_decide_eq_true (by first | (with_reducible assumption) | assumption)
                 have q199 : t188 < (t185.length : Int) := of_decide_eq_true (by first | (with_reducible assumption) | assumption)
                 obtain ⟨ad199, e199, hx199_0, hx199_1⟩ := at_T32 (Kd.R_reads' HO_5.out).2.2 t188 p199 q199
                 cases e199
                 replace p199 := eq_true p199
                 replace q199 := eq_true q199
                 try go_wp2
                 have n0_ := Aside0.mk (Kd.R_drew HO_5.out)
                 have n1_ := Aside0.mk (Kd.R_drew HO_9.out)
                 have n2_ := Aside0.mk (below_drew1 HB.out)
                 clear HO_5
                 clear HO_9
                 clear HB
                 have HO_5 := n0_
                 have HO_9 := n1_
                 have HB := n2_
                 clear n0_ n1_ n2_
                 obtain ⟨Ao91, co91, eo91⟩ := Kd.R_slice HO_9.out
                 (first | subst eo91 | (injection eo91 with f1_ f2_ f3_; have f4_ := f1_.symm; have f5_ := f3_.symm; clear f1_ f2_ f3_; subst f4_; subst f5_))
                 have q92 : (t188 : Int) ≤ ((t190.length : Int) : Int) := of_decide_eq_true (by first | (with_reducible assumption) | assumption)
                 obtain ⟨i092, hi092, _, hsz92, _⟩ := info_parts info32
                 have hroom92 : t190.length ≤ co91 := (Kd.R_reads' HO_9.out).2.1
                 have hC92 : Kd.C k32 _ Ao91 t190.length t190 := (Kd.R_reads' HO_9.out).2.2
                 have hcut92 := cut_to (P := Try.prog) 23 32 .i64 Try.underlying23 hi092 Ao91 t190.length co91 t188 (of_decide_eq_true (by first | (with_reducible assumption) | assumption)) q92 hroom92
                 have hr92 := Kd.C_take (m := (t188 : Int).toNat) hC92 (by omega)
                 have hy92 : y219.length = (t188 : Int).toNat := (by rw [Ny219.out, List.length_take]; omega)
                 rw [← Ny219.out] at hr92
                 rw [← hy92] at hcut92
                 have HR222 := Aside0.mk hr92
                 have HC222 := Aside0.mk (show y219.length ≤ co91 from by omega)
                 clear hr92 hC92 hroom92 hi092 hsz92
                 have KY92 := Aside0.mk hy92
                 clear hy92
                 have KL92 := Aside0.mk (show (t188 : Int).toNat ≤ t190.length from by omega)
                 replace q92 := eq_true q92
                 have q93 : (t188 : Int) ≤ ((t185.length : Int) : Int) := of_decide_eq_true (by first | (with_reducible assumption) | assumption)
                 obtain ⟨i093, hi093, _, hsz93, _⟩ := info_parts info32
                 have hroom93 : t185.length ≤ co9 := (Kd.R_reads' HO_5.out).2.1
                 have hC93 : Kd.C k32 _ (some ad199) t185.length t185 := (Kd.R_reads' HO_5.out).2.2
                 have hcut93 := cut_to (P := Try.prog) 23 32 .i64 Try.underlying23 hi093 (some ad199) t185.length co9 t188 (of_decide_eq_true (by first | (with_reducible assumption) | assumption)) q93 hroom93
                 have hr93 := Kd.C_take (m := (t188 : Int).toNat) hC93 (by omega)
                 have hy93 : y223.length = (t188 : Int).toNat := (by rw [Ny223.out, List.length_take]; omega)
                 rw [← Ny223.out] at hr93
                 rw [← hy93] at hcut93
                 have HR226 := Aside0.mk hr93
                 have HC226 := Aside0.mk (show y223.length ≤ co9 from by omega)
                 clear hr93 hC93 hroom93 hi093 hsz93
                 have KY93 := Aside0.mk hy93
                 clear hy93
                 have KL93 := Aside0.mk (show (t188 : Int).toNat ≤ t185.length from by omega)
                 replace q93 := eq_true q93
                 have p228 : 0 ≤ (t188 : Int) := of_decide_eq_true (by first | (with_reducible assumption) | assumption)
                 have q228 : t188 < (t190.length : Int) := of_decide_eq_true (by first | (with_reducible assumption) | assumption)
                 obtain ⟨ad228, e228, hx228_0, hx228_1⟩ := at_T32 (Kd.R_reads' HO_9.out).2.2 t188 p228 q228
                 cases e228
                 replace p228 := eq_true p228
                 replace q228 := eq_true q228
                 have p229 : 0 ≤ (t188 : Int) := of_decide_eq_true (by first | (with_reducible assumption) | assumption)
                 have q229 : t188 < (t185.length : Int) := of_decide_eq_true (by first | (with_reducible assumption) | assumption)
                 obtain ⟨ad229, e229, hx229_0, hx229_1⟩ := at_T32 (Kd.R_reads' HO_5.out).2.2 t188 p229 q229
                 obtain rfl : ad199 = ad229 := (by injection e229)
                 replace p229 := eq_true p229
                 replace q229 := eq_true q229
                 refine start_ (n := 47) (S := fun w' => w'.cell? (ad228.add ((t188).toNat * 2)) = some (.int .i64 ((rd_T32 t190 t188).f0)) ∧ w'.cell? ⟨(ad228.add ((t188).toNat * 2)).block, (ad228.add ((t188).toNat * 2)).off + 1, none⟩ = some (.int .i64 ((rd_T32 t190 t188).f1)) ∧ w'.cell? (ad199.add ((t188).toNat * 2)) = some (.int .i64 ((rd_T32 t185 t188).f0)) ∧ w'.cell? ⟨(ad199.add ((t188).toNat * 2)).block, (ad199.add ((t188).toNat * 2)).off + 1, none⟩ = some (.int .i64 ((rd_T32 t185 t188).f1))) (ds := []) (msk 0 47) (by kernel_rfl) rfl rfl ⟨hx228_0, hx228_1, hx229_0, hx229_1⟩ (fun hHeld => ?_); refine with_tabW rickyardlaw5_RunsFirst.tab16 rickyardlaw5_RunsFirst.bits16 (fun HT_ HW_ => ?_)
                 generalize wr.drew = w90 at HO_5 HO_9 HB HR222 HR226 hx228_0 hx228_1 hx229_0 hx229_1 hHeld ⊢
                 refine pure_ (i := 0) (N := some 120) (v := ?_) (a' := ?_) (msk 1 46) rfl rfl (any_of HT_.out (by kernel_rfl)) (fun _ _ _ h => h) (Or.inl ⟨by rfl, ?_⟩) ?_ ?_
                 rotate_left
                 ·intro w'; go_simp; with_reducible rfl
                 rotate_left
                 ·simp only [Act.put, List.setIfInBounds_toArray, List.set_cons_zero, List.set_cons_succ, i64_w, i32_w]; rfl
                 refine pure_ (i := 1) (N := some 121) (v := ?_) (a' := ?_) (msk 2 45) rfl rfl (any_of HT_.out (by kernel_rfl)) (fun _ _ _ h => h) (Or.inl ⟨by rfl, ?_⟩) ?_ ?_
                 rotate_left
                 ·intro w'; go_simp; with_reducible rfl
                 rotate_left
                 ·simp only [Act.put, List.setIfInBounds_toArray, List.set_cons_zero, List.set_cons_succ, i64_w, i32_w]; rfl
                 refine pure_ (i := 2) (N := some 122) (v := ?_) (a' := ?_) (msk 3 44) rfl rfl (any_of HT_.out (by kernel_rfl)) (fun _ _ _ h => h) (Or.inl ⟨by rfl, ?_⟩) ?_ ?_
                 rotate_left
                 ·intro w'; go_simp; with_reducible rfl
                 rotate_left
                 ·simp only [Act.put, List.setIfInBounds_toArray, List.set_cons_zero, List.set_cons_succ, i64_w, i32_w]; rfl
                 refine pure_ (i := 3) (N := some 123) (v := ?_) (a' := ?_) (msk 4 43) rfl rfl (any_of HT_.out (by kernel_rfl)) (fun _ _ _ h => h) (Or.inl ⟨by rfl, ?_⟩) ?_ ?_
                 rotate_left
                 ·intro w'; go_simp; with_reducible rfl
                 rotate_left
                 ·simp only [Act.put, List.setIfInBounds_toArray, List.set_cons_zero, List.set_cons_succ, i64_w, i32_w]; rfl
                 refine pure_ (i := 4) (N := some 124) (v := ?_) (a' := ?_) (msk 5 42) rfl rfl (any_of HT_.out (by kernel_rfl)) (fun _ _ _ h => h) (Or.inl ⟨by rfl, ?_⟩) ?_ ?_
                 rotate_left
                 ·intro w'; go_simp; with_reducible rfl
                 rotate_left
                 ·simp only [Act.put, List.setIfInBounds_toArray, List.set_cons_zero, List.set_cons_succ, i64_w, i32_w]; rfl
                 refine pure_ (i := 5) (N := some 125) (v := ?_) (a' := ?_) (msk 6 41) rfl rfl (any_of HT_.out (by kernel_rfl)) (fun _ _ _ h => h) (Or.inl ⟨by rfl, ?_⟩) ?_ ?_
                 rotate_left
                 ·intro w'; go_simp; with_reducible rfl
                 rotate_left
                 ·simp only [Act.put, List.setIfInBounds_toArray, List.set_cons_zero, List.set_cons_succ, i64_w, i32_w]; rfl
                 refine pure_ (i := 6) (N := some 126) (v := ?_) (a' := ?_) (msk 7 40) rfl rfl (any_of HT_.out (by kernel_rfl)) (fun _ _ _ h => h) (Or.inl ⟨by rfl, ?_⟩) ?_ ?_
                 rotate_left
                 ·intro w'; go_simp; with_reducible rfl
                 rotate_left
                 ·simp only [Act.put, List.setIfInBounds_toArray, List.set_cons_zero, List.set_cons_succ, i64_w, i32_w]; rfl
                 refine pure_ (i := 7) (N := some 127) (v := ?_) (a' := ?_) (msk 8 39) rfl rfl (any_of HT_.out (by kernel_rfl)) (fun _ _ _ h => h) (Or.inl ⟨by rfl, ?_⟩) ?_ ?_
                 rotate_left
                 ·intro w'; go_simp; with_reducible rfl
                 rotate_left
                 ·simp only [Act.put, List.setIfInBounds_toArray, List.set_cons_zero, List.set_cons_succ, i64_w, i32_w]; rfl
                 refine pure_ (i := 8) (N := some 128) (v := ?_) (a' := ?_) (msk 9 38) rfl rfl (any_of HT_.out (by kernel_rfl)) (fun _ _ _ h => h) (Or.inl ⟨by rfl, ?_⟩) ?_ ?_
                 rotate_left
                 ·intro w'; go_simp; with_reducible rfl
                 rotate_left
                 ·simp only [Act.put, List.setIfInBounds_toArray, List.set_cons_zero, List.set_cons_succ, i64_w, i32_w]; rfl
                 refine pure_ (i := 9) (N := some 129) (v := ?_) (a' := ?_) (msk 10 37) rfl rfl (any_of HT_.out (by kernel_rfl)) (fun _ _ _ h => h) (Or.inl ⟨by rfl, ?_⟩) ?_ ?_
                 rotate_left
                 ·intro w'; go_simp; with_reducible rfl
                 rotate_left
                 ·simp only [Act.put, List.setIfInBounds_toArray, List.set_cons_zero, List.set_cons_succ, i64_w, i32_w]; rfl
                 refine pure_ (i := 10) (N := some 130) (v := ?_) (a' := ?_) (msk 11 36) rfl rfl (any_of HT_.out (by kernel_rfl)) (fun _ _ _ h => h) (Or.inl ⟨by rfl, ?_⟩) ?_ ?_
                 rotate_left
                 ·intro w'; go_simp; with_reducible rfl
                 rotate_left
                 ·simp only [Act.put, List.setIfInBounds_toArray, List.set_cons_zero, List.set_cons_succ, i64_w, i32_w]; rfl
                 refine pure_ (i := 11) (N := some 131) (v := ?_) (a' := ?_) (msk 12 35) rfl rfl (any_of HT_.out (by kernel_rfl)) (fun _ _ _ h => h) (Or.inl ⟨by rfl, ?_⟩) ?_ ?_
                 rotate_left
                 ·intro w'; go_simp; with_reducible rfl
                 rotate_left
                 ·simp only [Act.put, List.setIfInBounds_toArray, List.set_cons_zero, List.set_cons_succ, i64_w, i32_w]; rfl
                 refine one_ (i := 12) (N := some 132) (msk 13 34) rfl rfl (one_of HT_.out (by kernel_rfl)) (by decide) (fun K hK => ?_)
                 refine goes_ Try.func17 (by kernel_rfl) rfl #[.slice (some ad228) y219.length co91, .slice (some ad199) y223.length co9] (by rfl) rfl rfl (by (try simp only [List.map_toArray, List.map_cons, List.map_nil]); first | done | rfl | (simp only [List.length_drop, List.length_take]; rfl)) ?_
                 with_reducible refine (rickyardref1_SameRuns.calls k2 _ _ y219 _ _ y223 true _ ?side1 ?side2 ?side3 ?side4 A65.out).mono ?_
                 (case side1 => repeat (first | exact (by repeat (first | (with_reducible exact HR222.out) | (with_reducible refine Kd.C_alloc ?_ _) | (with_reducible refine Kd.C_drewN ?_ _) | (with_reducible refine Kd.C_drew ?_) | exact HR222.out)) | (with_reducible refine Kd.C_alloc ?_ _) | (with_reducible refine Kd.C_drewN ?_ _) | (with_reducible refine Kd.C_drew ?_)))
                 (case side2 => exact HC222.out)
                 (case side3 => repeat (first | exact (by repeat (first | (with_reducible exact HR226.out) | (with_reducible refine Kd.C_alloc ?_ _) | (with_reducible refine Kd.C_drewN ?_ _) | (with_reducible refine Kd.C_drew ?_) | exact HR226.out)) | (with_reducible refine Kd.C_alloc ?_ _) | (with_reducible refine Kd.C_drewN ?_ _) | (with_reducible refine Kd.C_drew ?_)))
                 (case side4 => exact HC226.out)
                 rintro e w' ⟨rfl, ⟨nd, rfl⟩⟩
                 refine ⟨_, rfl, ?_⟩
                 refine hK.out _ _ ⟨hHeld.1, hHeld.2.1, hHeld.2.2.1, hHeld.2.2.2⟩ (fun hHeld => ?_)
                 clear hK K
                 refine norm_ (a' := ?_) ?_ ?_
                 rotate_left
                 ·show Act.put _ (some 132) _ = _
                  simp only [Act.put, List.setIfInBounds_toArray, List.set_cons_zero, List.set_cons_succ, i64_w, i32_w]; rfl
                 refine pure_ (i := 13) (N := some 133) (v := ?_) (a' := ?_) (msk 14 33) rfl rfl (any_of HT_.out (by kernel_rfl)) (fun _ _ _ h => h) (Or.inl ⟨by rfl, ?_⟩) ?_ ?_
                 rotate_left
                 ·intro w'; go_simp; with_reducible rfl
                 rotate_left
                 ·simp only [Act.put, List.setIfInBounds_toArray, List.set_cons_zero, List.set_cons_succ, i64_w, i32_w]; rfl
                 refine pure_ (i := 14) (N := some 134) (v := ?_) (a' := ?_) (msk 15 32) rfl rfl (any_of HT_.out (by kernel_rfl)) (fun _ _ _ h => h) (Or.inl ⟨by rfl, ?_⟩) ?_ ?_
                 rotate_left
                 ·intro w'; go_simp; with_reducible rfl
                 rotate_left
                 ·simp only [Act.put, List.setIfInBounds_toArray, List.set_cons_zero, List.set_cons_succ, i64_w, i32_w]; rfl
                 refine pure_ (i := 15) (N := some 135) (v := ?_) (a' := ?_) (msk 16 31) rfl rfl (any_of HT_.out (by kernel_rfl)) (fun _ _ _ h => h) (Or.inl ⟨by rfl, ?_⟩) ?_ ?_
                 rotate_left
                 ·intro w'; go_simp; with_reducible rfl
                 rotate_left
                 ·simp only [Act.put, List.setIfInBounds_toArray, List.set_cons_zero, List.set_cons_succ, i64_w, i32_w]; rfl
                 refine pure_ (i := 16) (N := some 136) (v := ?_) (a' := ?_) (msk 17 30) rfl rfl (any_of HT_.out (by kernel_rfl)) (fun _ _ _ h => h) (Or.inl ⟨by rfl, ?_⟩) ?_ ?_
                 rotate_left
                 ·intro w'; go_simp; with_reducible rfl
                 rotate_left
                 ·simp only [Act.put, List.setIfInBounds_toArray, List.set_cons_zero, List.set_cons_succ, i64_w, i32_w]; rfl
                 refine pure_ (i := 17) (N := some 137) (v := ?_) (a' := ?_) (msk 18 29) rfl rfl (any_of HT_.out (by kernel_rfl)) (fun _ _ _ h => h) (Or.inl ⟨by rfl, ?_⟩) ?_ ?_
                 rotate_left
                 ·intro w'; go_simp; with_reducible rfl
                 rotate_left
                 ·simp only [Act.put, List.setIfInBounds_toArray, List.set_cons_zero, List.set_cons_succ, i64_w, i32_w]; rfl
                 refine pure_ (i := 19) (N := some 139) (v := ?_) (a' := ?_) #[tt,tt,tt,tt,tt,tt,tt,tt,tt,tt,tt,tt,tt,tt,tt,tt,tt,tt,ff,tt,ff,ff,ff,ff,ff,ff,ff,ff,ff,ff,ff,ff,ff,ff,ff,ff,ff,ff,ff,ff,ff,ff,ff,ff,ff,ff,ff] rfl rfl (any_of HT_.out (by kernel_rfl)) (fun _ _ _ h => h) (Or.inl ⟨by rfl, ?_⟩) ?_ ?_
                 rotate_left
                 ·intro w'; go_simp; with_reducible rfl
                 rotate_left
                 ·simp only [Act.put, List.setIfInBounds_toArray, List.set_cons_zero, List.set_cons_succ, i64_w, i32_w]; rfl
                 refine pure_ (i := 20) (N := some 140) (v := ?_) (a' := ?_) #[tt,tt,tt,tt,tt,tt,tt,tt,tt,tt,tt,tt,tt,tt,tt,tt,tt,tt,ff,tt,tt,ff,ff,ff,ff,ff,ff,ff,ff,ff,ff,ff,ff,ff,ff,ff,ff,ff,ff,ff,ff,ff,ff,ff,ff,ff,ff] rfl rfl (any_of HT_.out (by kernel_rfl)) (fun _ _ _ h => h) (Or.inl ⟨by rfl, ?_⟩) ?_ ?_
                 rotate_left
                 ·intro w'; go_simp; with_reducible rfl
                 rotate_left
                 ·simp only [Act.put, List.setIfInBounds_toArray, List.set_cons_zero, List.set_cons_succ, i64_w, i32_w]; rfl
                 refine pure_ (i := 21) (N := some 141) (v := ?_) (a' := ?_) #[tt,tt,tt,tt,tt,tt,tt,tt,tt,tt,tt,tt,tt,tt,tt,tt,tt,tt,ff,tt,tt,tt,ff,ff,ff,ff,ff,ff,ff,ff,ff,ff,ff,ff,ff,ff,ff,ff,ff,ff,ff,ff,ff,ff,ff,ff,ff] rfl rfl (any_of HT_.out (by kernel_rfl)) (fun _ _ _ h => h) (Or.inl ⟨by rfl, ?_⟩) ?_ ?_
                 rotate_left
                 ·intro w'; go_simp; with_reducible rfl
                 rotate_left
                 ·simp only [Act.put, List.setIfInBounds_toArray, List.set_cons_zero, List.set_cons_succ, i64_w, i32_w]; rfl
                 refine pure_ (i := 22) (N := some 142) (v := ?_) (a' := ?_) #[tt,tt,tt,tt,tt,tt,tt,tt,tt,tt,tt,tt,tt,tt,tt,tt,tt,tt,ff,tt,tt,tt,tt,ff,ff,ff,ff,ff,ff,ff,ff,ff,ff,ff,ff,ff,ff,ff,ff,ff,ff,ff,ff,ff,ff,ff,ff] rfl rfl (any_of HT_.out (by kernel_rfl)) (fun _ _ _ h => h) (Or.inl ⟨by rfl, ?_⟩) ?_ ?_
                 rotate_left
                 ·intro w'; go_simp; with_reducible rfl
                 rotate_left
                 ·simp only [Act.put, List.setIfInBounds_toArray, List.set_cons_zero, List.set_cons_succ, i64_w, i32_w]; rfl
                 refine pure_ (i := 23) (N := some 143) (v := ?_) (a' := ?_) #[tt,tt,tt,tt,tt,tt,tt,tt,tt,tt,tt,tt,tt,tt,tt,tt,tt,tt,ff,tt,tt,tt,tt,tt,ff,ff,ff,ff,ff,ff,ff,ff,ff,ff,ff,ff,ff,ff,ff,ff,ff,ff,ff,ff,ff,ff,ff] rfl rfl (any_of HT_.out (by kernel_rfl)) (fun _ _ _ h => h) (Or.inl ⟨by rfl, ?_⟩) ?_ ?_
                 rotate_left
                 ·intro w'; go_simp; with_reducible rfl
                 rotate_left
                 ·simp only [Act.put, List.setIfInBounds_toArray, List.set_cons_zero, List.set_cons_succ, i64_w, i32_w]; rfl
                 refine pure_ (i := 24) (N := some 144) (v := ?_) (a' := ?_) #[tt,tt,tt,tt,tt,tt,tt,tt,tt,tt,tt,tt,tt,tt,tt,tt,tt,tt,ff,tt,tt,tt,tt,tt,tt,ff,ff,ff,ff,ff,ff,ff,ff,ff,ff,ff,ff,ff,ff,ff,ff,ff,ff,ff,ff,ff,ff] rfl rfl (any_of HT_.out (by kernel_rfl)) (fun _ _ _ h => h) (Or.inl ⟨by rfl, ?_⟩) ?_ ?_
                 rotate_left
                 ·intro w'; go_simp; with_reducible rfl
                 rotate_left
                 ·simp only [Act.put, List.setIfInBounds_toArray, List.set_cons_zero, List.set_cons_succ, i64_w, i32_w]; rfl
                 refine pure_ (i := 25) (N := some 145) (v := ?_) (a' := ?_) #[tt,tt,tt,tt,tt,tt,tt,tt,tt,tt,tt,tt,tt,tt,tt,tt,tt,tt,ff,tt,tt,tt,tt,tt,tt,tt,ff,ff,ff,ff,ff,ff,ff,ff,ff,ff,ff,ff,ff,ff,ff,ff,ff,ff,ff,ff,ff] rfl rfl (any_of HT_.out (by kernel_rfl)) (fun _ _ _ h => h) (Or.inl ⟨by rfl, ?_⟩) ?_ ?_
                 rotate_left
                 ·intro w'; go_simp; with_reducible rfl
                 rotate_left
                 ·simp only [Act.put, List.setIfInBounds_toArray, List.set_cons_zero, List.set_cons_succ, i64_w, i32_w]; rfl
                 refine pure_ (i := 27) (N := some 147) (v := ?_) (a' := ?_) #[tt,tt,tt,tt,tt,tt,tt,tt,tt,tt,tt,tt,tt,tt,tt,tt,tt,tt,ff,tt,tt,tt,tt,tt,tt,tt,ff,tt,ff,ff,ff,ff,ff,ff,ff,ff,ff,ff,ff,ff,ff,ff,ff,ff,ff,ff,ff] rfl rfl (any_of HT_.out (by kernel_rfl)) (fun _ _ _ h => h) (Or.inl ⟨by rfl, ?_⟩) ?_ ?_
                 rotate_left
                 ·intro w'; go_simp; with_reducible rfl
                 rotate_left
                 ·simp only [Act.put, List.setIfInBounds_toArray, List.set_cons_zero, List.set_cons_succ, i64_w, i32_w]; rfl
                 refine take_ (i := 18) (N := some 138) (v := ?_) (a' := ?_) #[tt,tt,tt,tt,tt,tt,tt,tt,tt,tt,tt,tt,tt,tt,tt,tt,tt,tt,tt,tt,tt,tt,tt,tt,tt,tt,ff,tt,ff,ff,ff,ff,ff,ff,ff,ff,ff,ff,ff,ff,ff,ff,ff,ff,ff,ff,ff] rfl rfl (take_ofW HT_.out HW_.out (by kernel_rfl)) (fun _ _ _ h => h) (Or.inl ⟨by rfl, ?_⟩) hHeld ?_ ?_
                 rotate_left
                 ·rintro w' ⟨s0, s1, s2, s3⟩
                  go_simp
                  with_reducible rfl
                 rotate_left
                 ·simp only [Act.put, List.setIfInBounds_toArray, List.set_cons_zero, List.set_cons_succ, i64_w, i32_w]; rfl
                 refine take_ (i := 26) (N := some 146) (v := ?_) (a' := ?_) (msk 28 19) rfl rfl (take_ofW HT_.out HW_.out (by kernel_rfl)) (fun _ _ _ h => h) (Or.inl ⟨by rfl, ?_⟩) hHeld ?_ ?_
                 rotate_left
                 ·rintro w' ⟨s0, s1, s2, s3⟩
                  go_simp
                  with_reducible rfl
                 rotate_left
                 ·simp only [Act.put, List.setIfInBounds_toArray, List.set_cons_zero, List.set_cons_succ, i64_w, i32_w]; rfl
                 refine pure_ (i := 28) (N := some 148) (v := ?_) (a' := ?_) (msk 29 18) rfl rfl (any_of HT_.out (by kernel_rfl)) (fun _ _ _ h => h) (Or.inl ⟨by rfl, ?_⟩) ?_ ?_
                 rotate_left
                 ·intro w'; go_simp; with_reducible rfl
                 rotate_left
                 ·simp only [Act.put, List.setIfInBounds_toArray, List.set_cons_zero, List.set_cons_succ, i64_w, i32_w]; rfl
                 refine pure_ (i := 29) (N := some 149) (v := ?_) (a' := ?_) (msk 30 17) rfl rfl (any_of HT_.out (by kernel_rfl)) (fun _ _ _ h => h) (Or.inl ⟨by rfl, ?_⟩) ?_ ?_
                 rotate_left
                 ·intro w'; go_simp; with_reducible rfl
                 rotate_left
                 ·simp only [Act.put, List.setIfInBounds_toArray, List.set_cons_zero, List.set_cons_succ, i64_w, i32_w]; rfl
                 refine pure_ (i := 30) (N := some 150) (v := ?_) (a' := ?_) (msk 31 16) rfl rfl (any_of HT_.out (by kernel_rfl)) (fun _ _ _ h => h) (Or.inl ⟨by rfl, ?_⟩) ?_ ?_
                 rotate_left
                 ·intro w'; go_simp; with_reducible rfl
                 rotate_left
                 ·simp only [Act.put, List.setIfInBounds_toArray, List.set_cons_zero, List.set_cons_succ, i64_w, i32_w]; rfl
                 refine pure_ (i := 31) (N := some 151) (v := ?_) (a' := ?_) (msk 32 15) rfl rfl (any_of HT_.out (by kernel_rfl)) (fun _ _ _ h => h) (Or.inl ⟨by rfl, ?_⟩) ?_ ?_
                 rotate_left
                 ·intro w'; go_simp; with_reducible rfl
                 rotate_left
                 ·simp only [Act.put, List.setIfInBounds_toArray, List.set_cons_zero, List.set_cons_succ, i64_w, i32_w]; rfl
                 refine pure_ (i := 32) (N := some 152) (v := ?_) (a' := ?_) (msk 33 14) rfl rfl (any_of HT_.out (by kernel_rfl)) (fun _ _ _ h => h) (Or.inl ⟨by rfl, ?_⟩) ?_ ?_
                 rotate_left
                 ·intro w'; go_simp; with_reducible rfl
                 rotate_left
                 ·simp only [Act.put, List.setIfInBounds_toArray, List.set_cons_zero, List.set_cons_succ, i64_w, i32_w]; rfl
                 refine pure_ (i := 33) (N := some 153) (v := undef) (a' := ?_) (msk 34 13) rfl rfl (any_of HT_.out (by kernel_rfl)) (fun _ _ _ h => h) (Or.inr ⟨by rfl, rfl⟩) ?_ ?_
                 rotate_left
                 ·simp only [Act.put, List.setIfInBounds_toArray, List.set_cons_zero, List.set_cons_succ, i64_w, i32_w]; rfl
                 refine pure_ (i := 34) (N := some 154) (v := undef) (a' := ?_) (msk 35 12) rfl rfl (any_of HT_.out (by kernel_rfl)) (fun _ _ _ h => h) (Or.inr ⟨by rfl, rfl⟩) ?_ ?_
                 rotate_left
                 ·simp only [Act.put, List.setIfInBounds_toArray, List.set_cons_zero, List.set_cons_succ, i64_w, i32_w]; rfl
                 refine pure_ (i := 35) (N := some 155) (v := undef) (a' := ?_) (msk 36 11) rfl rfl (any_of HT_.out (by kernel_rfl)) (fun _ _ _ h => h) (Or.inr ⟨by rfl, rfl⟩) ?_ ?_
                 rotate_left
                 ·simp only [Act.put, List.setIfInBounds_toArray, List.set_cons_zero, List.set_cons_succ, i64_w, i32_w]; rfl
                 refine pure_ (i := 36) (N := some 156) (v := undef) (a' := ?_) (msk 37 10) rfl rfl (any_of HT_.out (by kernel_rfl)) (fun _ _ _ h => h) (Or.inr ⟨by rfl, rfl⟩) ?_ ?_
                 rotate_left
                 ·simp only [Act.put, List.setIfInBounds_toArray, List.set_cons_zero, List.set_cons_succ, i64_w, i32_w]; rfl
                 refine pure_ (i := 37) (N := some 157) (v := undef) (a' := ?_) (msk 38 9) rfl rfl (any_of HT_.out (by kernel_rfl)) (fun _ _ _ h => h) (Or.inr ⟨by rfl, rfl⟩) ?_ ?_
                 rotate_left
                 ·simp only [Act.put, List.setIfInBounds_toArray, List.set_cons_zero, List.set_cons_succ, i64_w, i32_w]; rfl
                 refine pure_ (i := 38) (N := some 158) (v := undef) (a' := ?_) (msk 39 8) rfl rfl (any_of HT_.out (by kernel_rfl)) (fun _ _ _ h => h) (Or.inr ⟨by rfl, rfl⟩) ?_ ?_
                 rotate_left
                 ·simp only [Act.put, List.setIfInBounds_toArray, List.set_cons_zero, List.set_cons_succ, i64_w, i32_w]; rfl
                 refine pure_ (i := 39) (N := some 159) (v := undef) (a' := ?_) (msk 40 7) rfl rfl (any_of HT_.out (by kernel_rfl)) (fun _ _ _ h => h) (Or.inr ⟨by rfl, rfl⟩) ?_ ?_
                 rotate_left
                 ·simp only [Act.put, List.setIfInBounds_toArray, List.set_cons_zero, List.set_cons_succ, i64_w, i32_w]; rfl
                 refine pure_ (i := 40) (N := some 160) (v := undef) (a' := ?_) (msk 41 6) rfl rfl (any_of HT_.out (by kernel_rfl)) (fun _ _ _ h => h) (Or.inr ⟨by rfl, rfl⟩) ?_ ?_
                 rotate_left
                 ·simp only [Act.put, List.setIfInBounds_toArray, List.set_cons_zero, List.set_cons_succ, i64_w, i32_w]; rfl
                 refine pure_ (i := 41) (N := some 161) (v := undef) (a' := ?_) (msk 42 5) rfl rfl (any_of HT_.out (by kernel_rfl)) (fun _ _ _ h => h) (Or.inr ⟨by rfl, rfl⟩) ?_ ?_
                 rotate_left
                 ·simp only [Act.put, List.setIfInBounds_toArray, List.set_cons_zero, List.set_cons_succ, i64_w, i32_w]; rfl
                 refine pure_ (i := 42) (N := some 162) (v := ?_) (a' := ?_) (msk 43 4) rfl rfl (any_of HT_.out (by kernel_rfl)) (fun _ _ _ h => h) (Or.inl ⟨by rfl, ?_⟩) ?_ ?_
                 rotate_left
                 ·intro w'; go_simp; with_reducible rfl
                 rotate_left
                 ·simp only [Act.put, List.setIfInBounds_toArray, List.set_cons_zero, List.set_cons_succ, i64_w, i32_w]; rfl
                 refine pure_ (i := 43) (N := some 163) (v := ?_) (a' := ?_) (msk 44 3) rfl rfl (any_of HT_.out (by kernel_rfl)) (fun _ _ _ h => h) (Or.inl ⟨by rfl, ?_⟩) ?_ ?_
                 rotate_left
                 ·intro w'; go_simp; with_reducible rfl
                 rotate_left
                 ·simp only [Act.put, List.setIfInBounds_toArray, List.set_cons_zero, List.set_cons_succ, i64_w, i32_w]; rfl
                 refine pure_ (i := 44) (N := some 164) (v := undef) (a' := ?_) (msk 45 2) rfl rfl (any_of HT_.out (by kernel_rfl)) (fun _ _ _ h => h) (Or.inr ⟨by rfl, rfl⟩) ?_ ?_
                 rotate_left
                 ·simp only [Act.put, List.setIfInBounds_toArray, List.set_cons_zero, List.set_cons_succ, i64_w, i32_w]; rfl
                 refine pure_ (i := 45) (N := some 165) (v := ?_) (a' := ?_) (msk 46 1) rfl rfl (any_of HT_.out (by kernel_rfl)) (fun _ _ _ h => h) (Or.inl ⟨by rfl, ?_⟩) ?_ ?_
                 rotate_left
                 ·intro w'; go_simp; with_reducible rfl
                 rotate_left
                 ·simp only [Act.put, List.setIfInBounds_toArray, List.set_cons_zero, List.set_cons_succ, i64_w, i32_w]; rfl
                 refine pure_ (i := 46) (N := some 4) (v := ?_) (a' := ?_) (msk 47 0) rfl rfl (any_of HT_.out (by kernel_rfl)) (fun _ _ _ h => h) (Or.inl ⟨by rfl, ?_⟩) ?_ ?_
                 rotate_left
                 ·intro w'; go_simp; with_reducible rfl
                 rotate_left
                 ·simp only [Act.put, List.setIfInBounds_toArray, List.set_cons_zero, List.set_cons_succ, i64_w, i32_w]; rfl
                 refine done_ (done_of HT_.out (by kernel_rfl)) ?_
                 try go_wp2
                 go_ret
                 exact ⟨by first | rfl | (simp [errW_none, errW_some] <;> rfl) | (simp [*, errW_none, errW_some] <;> rfl), by repeat (first | (with_reducible first | exact HB.out | apply below_alloc | apply pw_below_drewN | apply below_drew1) | exact HB.out)⟩
               ·rw [if_neg c67] at H
                exact absurd H (by simp)
              ·replace c66 := Bool.eq_false_iff.mpr c66
               subst c66
               have H1 : (some false) = some r := by rw [if_neg (show ¬ (false = true) by decide)] at H; exact H
               clear H
               have H := H1
               clear H1
               obtain rfl := Option.some.inj H
               have p199 : 0 ≤ (t188 : Int) := of_decide_eq_true (by first | (with_reducible assumption) | assumption)
               have q199 : t188 < (t185.length : Int) := of_decide_eq_true (by first | (with_reducible assumption) | assumption)
               obtain ⟨ad199, e199, hx199_0, hx199_1⟩ := at_T32 (Kd.R_reads' HO_5.out).2.2 t188 p199 q199
               cases e199
               replace p199 := eq_true p199
               replace q199 := eq_true q199
               try go_wp2
               have n0_ := Aside0.mk (Kd.R_drew HO_5.out)
               have n1_ := Aside0.mk (Kd.R_drew HO_9.out)
               have n2_ := Aside0.mk (below_drew1 HB.out)
               clear HO_5
               clear HO_9
               clear HB
               have HO_5 := n0_
               have HO_9 := n1_
               have HB := n2_
               clear n0_ n1_ n2_
               obtain ⟨Ao95, co95, eo95⟩ := Kd.R_slice HO_9.out
               (first | subst eo95 | (injection eo95 with f1_ f2_ f3_; have f4_ := f1_.symm; have f5_ := f3_.symm; clear f1_ f2_ f3_; subst f4_; subst f5_))
               have q96 : (t188 : Int) ≤ ((t190.length : Int) : Int) := of_decide_eq_true (by first | (with_reducible assumption) | assumption)
               obtain ⟨i096, hi096, _, hsz96, _⟩ := info_parts info32
               have hroom96 : t190.length ≤ co95 := (Kd.R_reads' HO_9.out).2.1
               have hC96 : Kd.C k32 _ Ao95 t190.length t190 := (Kd.R_reads' HO_9.out).2.2
               have hcut96 := cut_to (P := Try.prog) 23 32 .i64 Try.underlying23 hi096 Ao95 t190.length co95 t188 (of_decide_eq_true (by first | (with_reducible assumption) | assumption)) q96 hroom96
               have hr96 := Kd.C_take (m := (t188 : Int).toNat) hC96 (by omega)
               have hy96 : y219.length = (t188 : Int).toNat := (by rw [Ny219.out, List.length_take]; omega)
               rw [← Ny219.out] at hr96
               rw [← hy96] at hcut96
               have HR222 := Aside0.mk hr96
               have HC222 := Aside0.mk (show y219.length ≤ co95 from by omega)
               clear hr96 hC96 hroom96 hi096 hsz96
               have KY96 := Aside0.mk hy96
               clear hy96
               have KL96 := Aside0.mk (show (t188 : Int).toNat ≤ t190.length from by omega)
               replace q96 := eq_true q96
               have q97 : (t188 : Int) ≤ ((t185.length : Int) : Int) := of_decide_eq_true (by first | (with_reducible assumption) | assumption)
               obtain ⟨i097, hi097, _, hsz97, _⟩ := info_parts info32
               have hroom97 : t185.length ≤ co9 := (Kd.R_reads' HO_5.out).2.1
               have hC97 : Kd.C k32 _ (some ad199) t185.length t185 := (Kd.R_reads' HO_5.out).2.2
               have hcut97 := cut_to (P := Try.prog) 23 32 .i64 Try.underlying23 hi097 (some ad199) t185.length co9 t188 (of_decide_eq_true (by first | (with_reducible assumption) | assumption)) q97 hroom97
               have hr97 := Kd.C_take (m := (t188 : Int).toNat) hC97 (by omega)
               have hy97 : y223.length = (t188 : Int).toNat := (by rw [Ny223.out, List.length_take]; omega)
               rw [← Ny223.out] at hr97
               rw [← hy97] at hcut97
               have HR226 := Aside0.mk hr97
               have HC226 := Aside0.mk (show y223.length ≤ co9 from by omega)
               clear hr97 hC97 hroom97 hi097 hsz97
               have KY97 := Aside0.mk hy97
               clear hy97
               have KL97 := Aside0.mk (show (t188 : Int).toNat ≤ t185.length from by omega)
               replace q97 := eq_true q97
               refine start_ (n := 47) (S := fun w' => True) (ds := []) (msk 0 47) (by kernel_rfl) rfl rfl trivial (fun hHeld => ?_); refine with_tabW rickyardlaw5_RunsFirst.tab16 rickyardlaw5_RunsFirst.bits16 (fun HT_ HW_ => ?_)
               generalize wr.drew = w94 at HO_5 HO_9 HB HR222 HR226 hHeld ⊢
               refine pure_ (i := 0) (N := some 120) (v := ?_) (a' := ?_) (msk 1 46) rfl rfl (any_of HT_.out (by kernel_rfl)) (fun _ _ _ h => h) (Or.inl ⟨by rfl, ?_⟩) ?_ ?_
               rotate_left
               ·intro w'; go_simp; with_reducible rfl
               rotate_left
               ·simp only [Act.put, List.setIfInBounds_toArray, List.set_cons_zero, List.set_cons_succ, i64_w, i32_w]; rfl
               refine pure_ (i := 1) (N := some 121) (v := ?_) (a' := ?_) (msk 2 45) rfl rfl (any_of HT_.out (by kernel_rfl)) (fun _ _ _ h => h) (Or.inl ⟨by rfl, ?_⟩) ?_ ?_
               rotate_left
               ·intro w'; go_simp; with_reducible rfl
               rotate_left
               ·simp only [Act.put, List.setIfInBounds_toArray, List.set_cons_zero, List.set_cons_succ, i64_w, i32_w]; rfl
               refine pure_ (i := 2) (N := some 122) (v := ?_) (a' := ?_) (msk 3 44) rfl rfl (any_of HT_.out (by kernel_rfl)) (fun _ _ _ h => h) (Or.inl ⟨by rfl, ?_⟩) ?_ ?_
               rotate_left
               ·intro w'; go_simp; with_reducible rfl
               rotate_left
               ·simp only [Act.put, List.setIfInBounds_toArray, List.set_cons_zero, List.set_cons_succ, i64_w, i32_w]; rfl
               refine pure_ (i := 3) (N := some 123) (v := ?_) (a' := ?_) (msk 4 43) rfl rfl (any_of HT_.out (by kernel_rfl)) (fun _ _ _ h => h) (Or.inl ⟨by rfl, ?_⟩) ?_ ?_
               rotate_left
               ·intro w'; go_simp; with_reducible rfl
               rotate_left
               ·simp only [Act.put, List.setIfInBounds_toArray, List.set_cons_zero, List.set_cons_succ, i64_w, i32_w]; rfl
               refine pure_ (i := 4) (N := some 124) (v := ?_) (a' := ?_) (msk 5 42) rfl rfl (any_of HT_.out (by kernel_rfl)) (fun _ _ _ h => h) (Or.inl ⟨by rfl, ?_⟩) ?_ ?_
               rotate_left
               ·intro w'; go_simp; with_reducible rfl
               rotate_left
               ·simp only [Act.put, List.setIfInBounds_toArray, List.set_cons_zero, List.set_cons_succ, i64_w, i32_w]; rfl
               refine pure_ (i := 5) (N := some 125) (v := ?_) (a' := ?_) (msk 6 41) rfl rfl (any_of HT_.out (by kernel_rfl)) (fun _ _ _ h => h) (Or.inl ⟨by rfl, ?_⟩) ?_ ?_
               rotate_left
               ·intro w'; go_simp; with_reducible rfl
               rotate_left
               ·simp only [Act.put, List.setIfInBounds_toArray, List.set_cons_zero, List.set_cons_succ, i64_w, i32_w]; rfl
               refine pure_ (i := 6) (N := some 126) (v := ?_) (a' := ?_) (msk 7 40) rfl rfl (any_of HT_.out (by kernel_rfl)) (fun _ _ _ h => h) (Or.inl ⟨by rfl, ?_⟩) ?_ ?_
               rotate_left
               ·intro w'; go_simp; with_reducible rfl
               rotate_left
               ·simp only [Act.put, List.setIfInBounds_toArray, List.set_cons_zero, List.set_cons_succ, i64_w, i32_w]; rfl
               refine pure_ (i := 7) (N := some 127) (v := ?_) (a' := ?_) (msk 8 39) rfl rfl (any_of HT_.out (by kernel_rfl)) (fun _ _ _ h => h) (Or.inl ⟨by rfl, ?_⟩) ?_ ?_
               rotate_left
               ·intro w'; go_simp; with_reducible rfl
               rotate_left
               ·simp only [Act.put, List.setIfInBounds_toArray, List.set_cons_zero, List.set_cons_succ, i64_w, i32_w]; rfl
               refine pure_ (i := 8) (N := some 128) (v := ?_) (a' := ?_) (msk 9 38) rfl rfl (any_of HT_.out (by kernel_rfl)) (fun _ _ _ h => h) (Or.inl ⟨by rfl, ?_⟩) ?_ ?_
               rotate_left
               ·intro w'; go_simp; with_reducible rfl
               rotate_left
               ·simp only [Act.put, List.setIfInBounds_toArray, List.set_cons_zero, List.set_cons_succ, i64_w, i32_w]; rfl
               refine pure_ (i := 9) (N := some 129) (v := ?_) (a' := ?_) (msk 10 37) rfl rfl (any_of HT_.out (by kernel_rfl)) (fun _ _ _ h => h) (Or.inl ⟨by rfl, ?_⟩) ?_ ?_
               rotate_left
               ·intro w'; go_simp; with_reducible rfl
               rotate_left
               ·simp only [Act.put, List.setIfInBounds_toArray, List.set_cons_zero, List.set_cons_succ, i64_w, i32_w]; rfl
               refine pure_ (i := 10) (N := some 130) (v := ?_) (a' := ?_) (msk 11 36) rfl rfl (any_of HT_.out (by kernel_rfl)) (fun _ _ _ h => h) (Or.inl ⟨by rfl, ?_⟩) ?_ ?_
               rotate_left
               ·intro w'; go_simp; with_reducible rfl
               rotate_left
               ·simp only [Act.put, List.setIfInBounds_toArray, List.set_cons_zero, List.set_cons_succ, i64_w, i32_w]; rfl
               refine pure_ (i := 11) (N := some 131) (v := ?_) (a' := ?_) (msk 12 35) rfl rfl (any_of HT_.out (by kernel_rfl)) (fun _ _ _ h => h) (Or.inl ⟨by rfl, ?_⟩) ?_ ?_
               rotate_left
               ·intro w'; go_simp; with_reducible rfl
               rotate_left
               ·simp only [Act.put, List.setIfInBounds_toArray, List.set_cons_zero, List.set_cons_succ, i64_w, i32_w]; rfl
               refine one_ (i := 12) (N := some 132) (msk 13 34) rfl rfl (one_of HT_.out (by kernel_rfl)) (by decide) (fun K hK => ?_)
               refine goes_ Try.func17 (by kernel_rfl) rfl #[.slice Ao95 y219.length co95, .slice (some ad199) y223.length co9] (by rfl) rfl rfl (by (try simp only [List.map_toArray, List.map_cons, List.map_nil]); first | done | rfl | (simp only [List.length_drop, List.length_take]; rfl)) ?_
               with_reducible refine (rickyardref1_SameRuns.calls k2 _ _ y219 _ _ y223 false _ ?side1 ?side2 ?side3 ?side4 A65.out).mono ?_
               (case side1 => repeat (first | exact (by repeat (first | (with_reducible exact HR222.out) | (with_reducible refine Kd.C_alloc ?_ _) | (with_reducible refine Kd.C_drewN ?_ _) | (with_reducible refine Kd.C_drew ?_) | exact HR222.out)) | (with_reducible refine Kd.C_alloc ?_ _) | (with_reducible refine Kd.C_drewN ?_ _) | (with_reducible refine Kd.C_drew ?_)))
               (case side2 => exact HC222.out)
               (case side3 => repeat (first | exact (by repeat (first | (with_reducible exact HR226.out) | (with_reducible refine Kd.C_alloc ?_ _) | (with_reducible refine Kd.C_drewN ?_ _) | (with_reducible refine Kd.C_drew ?_) | exact HR226.out)) | (with_reducible refine Kd.C_alloc ?_ _) | (with_reducible refine Kd.C_drewN ?_ _) | (with_reducible refine Kd.C_drew ?_)))
               (case side4 => exact HC226.out)
               rintro e w' ⟨rfl, ⟨nd, rfl⟩⟩
               refine ⟨_, rfl, ?_⟩
               refine hK.out _ _ trivial (fun hHeld => ?_)
               clear hK K
               refine norm_ (a' := ?_) ?_ ?_
               rotate_left
               ·show Act.put _ (some 132) _ = _
                simp only [Act.put, List.setIfInBounds_toArray, List.set_cons_zero, List.set_cons_succ, i64_w, i32_w]; rfl
               refine pure_ (i := 13) (N := some 133) (v := ?_) (a' := ?_) (msk 14 33) rfl rfl (any_of HT_.out (by kernel_rfl)) (fun _ _ _ h => h) (Or.inl ⟨by rfl, ?_⟩) ?_ ?_
               rotate_left
               ·intro w'; go_simp; with_reducible rfl
               rotate_left
               ·simp only [Act.put, List.setIfInBounds_toArray, List.set_cons_zero, List.set_cons_succ, i64_w, i32_w]; rfl
               refine pure_ (i := 14) (N := some 134) (v := ?_) (a' := ?_) (msk 15 32) rfl rfl (any_of HT_.out (by kernel_rfl)) (fun _ _ _ h => h) (Or.inl ⟨by rfl, ?_⟩) ?_ ?_
               rotate_left
               ·intro w'; go_simp; with_reducible rfl
               rotate_left
               ·simp only [Act.put, List.setIfInBounds_toArray, List.set_cons_zero, List.set_cons_succ, i64_w, i32_w]; rfl
               refine pure_ (i := 15) (N := some 135) (v := undef) (a' := ?_) (msk 16 31) rfl rfl (any_of HT_.out (by kernel_rfl)) (fun _ _ _ h => h) (Or.inr ⟨by rfl, rfl⟩) ?_ ?_
               rotate_left
               ·simp only [Act.put, List.setIfInBounds_toArray, List.set_cons_zero, List.set_cons_succ, i64_w, i32_w]; rfl
               refine pure_ (i := 16) (N := some 136) (v := undef) (a' := ?_) (msk 17 30) rfl rfl (any_of HT_.out (by kernel_rfl)) (fun _ _ _ h => h) (Or.inr ⟨by rfl, rfl⟩) ?_ ?_
               rotate_left
               ·simp only [Act.put, List.setIfInBounds_toArray, List.set_cons_zero, List.set_cons_succ, i64_w, i32_w]; rfl
               refine pure_ (i := 17) (N := some 137) (v := undef) (a' := ?_) (msk 18 29) rfl rfl (any_of HT_.out (by kernel_rfl)) (fun _ _ _ h => h) (Or.inr ⟨by rfl, rfl⟩) ?_ ?_
               rotate_left
               ·simp only [Act.put, List.setIfInBounds_toArray, List.set_cons_zero, List.set_cons_succ, i64_w, i32_w]; rfl
               refine pure_ (i := 18) (N := some 138) (v := undef) (a' := ?_) (msk 19 28) rfl rfl (any_of HT_.out (by kernel_rfl)) (fun _ _ _ h => h) (Or.inr ⟨by rfl, rfl⟩) ?_ ?_
               rotate_left
               ·simp only [Act.put, List.setIfInBounds_toArray, List.set_cons_zero, List.set_cons_succ, i64_w, i32_w]; rfl
               refine pure_ (i := 19) (N := some 139) (v := undef) (a' := ?_) (msk 20 27) rfl rfl (any_of HT_.out (by kernel_rfl)) (fun _ _ _ h => h) (Or.inr ⟨by rfl, rfl⟩) ?_ ?_
               rotate_left
               ·simp only [Act.put, List.setIfInBounds_toArray, List.set_cons_zero, List.set_cons_succ, i64_w, i32_w]; rfl
               refine pure_ (i := 20) (N := some 140) (v := undef) (a' := ?_) (msk 21 26) rfl rfl (any_of HT_.out (by kernel_rfl)) (fun _ _ _ h => h) (Or.inr ⟨by rfl, rfl⟩) ?_ ?_
               rotate_left
               ·simp only [Act.put, List.setIfInBounds_toArray, List.set_cons_zero, List.set_cons_succ, i64_w, i32_w]; rfl
               refine pure_ (i := 21) (N := some 141) (v := undef) (a' := ?_) (msk 22 25) rfl rfl (any_of HT_.out (by kernel_rfl)) (fun _ _ _ h => h) (Or.inr ⟨by rfl, rfl⟩) ?_ ?_
               rotate_left
               ·simp only [Act.put, List.setIfInBounds_toArray, List.set_cons_zero, List.set_cons_succ, i64_w, i32_w]; rfl
               refine pure_ (i := 22) (N := some 142) (v := undef) (a' := ?_) (msk 23 24) rfl rfl (any_of HT_.out (by kernel_rfl)) (fun _ _ _ h => h) (Or.inr ⟨by rfl, rfl⟩) ?_ ?_
               rotate_left
               ·simp only [Act.put, List.setIfInBounds_toArray, List.set_cons_zero, List.set_cons_succ, i64_w, i32_w]; rfl
               refine pure_ (i := 23) (N := some 143) (v := undef) (a' := ?_) (msk 24 23) rfl rfl (any_of HT_.out (by kernel_rfl)) (fun _ _ _ h => h) (Or.inr ⟨by rfl, rfl⟩) ?_ ?_
               rotate_left
               ·simp only [Act.put, List.setIfInBounds_toArray, List.set_cons_zero, List.set_cons_succ, i64_w, i32_w]; rfl
               refine pure_ (i := 24) (N := some 144) (v := undef) (a' := ?_) (msk 25 22) rfl rfl (any_of HT_.out (by kernel_rfl)) (fun _ _ _ h => h) (Or.inr ⟨by rfl, rfl⟩) ?_ ?_
               rotate_left
               ·simp only [Act.put, List.setIfInBounds_toArray, List.set_cons_zero, List.set_cons_succ, i64_w, i32_w]; rfl
               refine pure_ (i := 25) (N := some 145) (v := undef) (a' := ?_) (msk 26 21) rfl rfl (any_of HT_.out (by kernel_rfl)) (fun _ _ _ h => h) (Or.inr ⟨by rfl, rfl⟩) ?_ ?_
               rotate_left
               ·simp only [Act.put, List.setIfInBounds_toArray, List.set_cons_zero, List.set_cons_succ, i64_w, i32_w]; rfl
               refine pure_ (i := 26) (N := some 146) (v := undef) (a' := ?_) (msk 27 20) rfl rfl (any_of HT_.out (by kernel_rfl)) (fun _ _ _ h => h) (Or.inr ⟨by rfl, rfl⟩) ?_ ?_
               rotate_left
               ·simp only [Act.put, List.setIfInBounds_toArray, List.set_cons_zero, List.set_cons_succ, i64_w, i32_w]; rfl
               refine pure_ (i := 27) (N := some 147) (v := undef) (a' := ?_) (msk 28 19) rfl rfl (any_of HT_.out (by kernel_rfl)) (fun _ _ _ h => h) (Or.inr ⟨by rfl, rfl⟩) ?_ ?_
               rotate_left
               ·simp only [Act.put, List.setIfInBounds_toArray, List.set_cons_zero, List.set_cons_succ, i64_w, i32_w]; rfl
               refine pure_ (i := 28) (N := some 148) (v := undef) (a' := ?_) (msk 29 18) rfl rfl (any_of HT_.out (by kernel_rfl)) (fun _ _ _ h => h) (Or.inr ⟨by rfl, rfl⟩) ?_ ?_
               rotate_left
               ·simp only [Act.put, List.setIfInBounds_toArray, List.set_cons_zero, List.set_cons_succ, i64_w, i32_w]; rfl
               refine pure_ (i := 29) (N := some 149) (v := undef) (a' := ?_) (msk 30 17) rfl rfl (any_of HT_.out (by kernel_rfl)) (fun _ _ _ h => h) (Or.inr ⟨by rfl, rfl⟩) ?_ ?_
               rotate_left
               ·simp only [Act.put, List.setIfInBounds_toArray, List.set_cons_zero, List.set_cons_succ, i64_w, i32_w]; rfl
               refine pure_ (i := 30) (N := some 150) (v := undef) (a' := ?_) (msk 31 16) rfl rfl (any_of HT_.out (by kernel_rfl)) (fun _ _ _ h => h) (Or.inr ⟨by rfl, rfl⟩) ?_ ?_
               rotate_left
               ·simp only [Act.put, List.setIfInBounds_toArray, List.set_cons_zero, List.set_cons_succ, i64_w, i32_w]; rfl
               refine pure_ (i := 31) (N := some 151) (v := ?_) (a' := ?_) (msk 32 15) rfl rfl (any_of HT_.out (by kernel_rfl)) (fun _ _ _ h => h) (Or.inl ⟨by rfl, ?_⟩) ?_ ?_
               rotate_left
               ·intro w'; go_simp; with_reducible rfl
               rotate_left
               ·simp only [Act.put, List.setIfInBounds_toArray, List.set_cons_zero, List.set_cons_succ, i64_w, i32_w]; rfl
               refine pure_ (i := 32) (N := some 152) (v := ?_) (a' := ?_) (msk 33 14) rfl rfl (any_of HT_.out (by kernel_rfl)) (fun _ _ _ h => h) (Or.inl ⟨by rfl, ?_⟩) ?_ ?_
               rotate_left
               ·intro w'; go_simp; with_reducible rfl
               rotate_left
               ·simp only [Act.put, List.setIfInBounds_toArray, List.set_cons_zero, List.set_cons_succ, i64_w, i32_w]; rfl
               refine pure_ (i := 33) (N := some 153) (v := undef) (a' := ?_) (msk 34 13) rfl rfl (any_of HT_.out (by kernel_rfl)) (fun _ _ _ h => h) (Or.inr ⟨by rfl, rfl⟩) ?_ ?_
               rotate_left
               ·simp only [Act.put, List.setIfInBounds_toArray, List.set_cons_zero, List.set_cons_succ, i64_w, i32_w]; rfl
               refine pure_ (i := 34) (N := some 154) (v := undef) (a' := ?_) (msk 35 12) rfl rfl (any_of HT_.out (by kernel_rfl)) (fun _ _ _ h => h) (Or.inr ⟨by rfl, rfl⟩) ?_ ?_
               rotate_left
               ·simp only [Act.put, List.setIfInBounds_toArray, List.set_cons_zero, List.set_cons_succ, i64_w, i32_w]; rfl
               refine pure_ (i := 35) (N := some 155) (v := undef) (a' := ?_) (msk 36 11) rfl rfl (any_of HT_.out (by kernel_rfl)) (fun _ _ _ h => h) (Or.inr ⟨by rfl, rfl⟩) ?_ ?_
               rotate_left
               ·simp only [Act.put, List.setIfInBounds_toArray, List.set_cons_zero, List.set_cons_succ, i64_w, i32_w]; rfl
               refine pure_ (i := 36) (N := some 156) (v := undef) (a' := ?_) (msk 37 10) rfl rfl (any_of HT_.out (by kernel_rfl)) (fun _ _ _ h => h) (Or.inr ⟨by rfl, rfl⟩) ?_ ?_
               rotate_left
               ·simp only [Act.put, List.setIfInBounds_toArray, List.set_cons_zero, List.set_cons_succ, i64_w, i32_w]; rfl
               refine pure_ (i := 37) (N := some 157) (v := undef) (a' := ?_) (msk 38 9) rfl rfl (any_of HT_.out (by kernel_rfl)) (fun _ _ _ h => h) (Or.inr ⟨by rfl, rfl⟩) ?_ ?_
               rotate_left
               ·simp only [Act.put, List.setIfInBounds_toArray, List.set_cons_zero, List.set_cons_succ, i64_w, i32_w]; rfl
               refine pure_ (i := 38) (N := some 158) (v := undef) (a' := ?_) (msk 39 8) rfl rfl (any_of HT_.out (by kernel_rfl)) (fun _ _ _ h => h) (Or.inr ⟨by rfl, rfl⟩) ?_ ?_
               rotate_left
               ·simp only [Act.put, List.setIfInBounds_toArray, List.set_cons_zero, List.set_cons_succ, i64_w, i32_w]; rfl
               refine pure_ (i := 39) (N := some 159) (v := undef) (a' := ?_) (msk 40 7) rfl rfl (any_of HT_.out (by kernel_rfl)) (fun _ _ _ h => h) (Or.inr ⟨by rfl, rfl⟩) ?_ ?_
               rotate_left
               ·simp only [Act.put, List.setIfInBounds_toArray, List.set_cons_zero, List.set_cons_succ, i64_w, i32_w]; rfl
               refine pure_ (i := 40) (N := some 160) (v := undef) (a' := ?_) (msk 41 6) rfl rfl (any_of HT_.out (by kernel_rfl)) (fun _ _ _ h => h) (Or.inr ⟨by rfl, rfl⟩) ?_ ?_
               rotate_left
               ·simp only [Act.put, List.setIfInBounds_toArray, List.set_cons_zero, List.set_cons_succ, i64_w, i32_w]; rfl
               refine pure_ (i := 41) (N := some 161) (v := undef) (a' := ?_) (msk 42 5) rfl rfl (any_of HT_.out (by kernel_rfl)) (fun _ _ _ h => h) (Or.inr ⟨by rfl, rfl⟩) ?_ ?_
               rotate_left
               ·simp only [Act.put, List.setIfInBounds_toArray, List.set_cons_zero, List.set_cons_succ, i64_w, i32_w]; rfl
               refine pure_ (i := 42) (N := some 162) (v := ?_) (a' := ?_) (msk 43 4) rfl rfl (any_of HT_.out (by kernel_rfl)) (fun _ _ _ h => h) (Or.inl ⟨by rfl, ?_⟩) ?_ ?_
               rotate_left
               ·intro w'; go_simp; with_reducible rfl
               rotate_left
               ·simp only [Act.put, List.setIfInBounds_toArray, List.set_cons_zero, List.set_cons_succ, i64_w, i32_w]; rfl
               refine pure_ (i := 43) (N := some 163) (v := ?_) (a' := ?_) (msk 44 3) rfl rfl (any_of HT_.out (by kernel_rfl)) (fun _ _ _ h => h) (Or.inl ⟨by rfl, ?_⟩) ?_ ?_
               rotate_left
               ·intro w'; go_simp; with_reducible rfl
               rotate_left
               ·simp only [Act.put, List.setIfInBounds_toArray, List.set_cons_zero, List.set_cons_succ, i64_w, i32_w]; rfl
               refine pure_ (i := 44) (N := some 164) (v := undef) (a' := ?_) (msk 45 2) rfl rfl (any_of HT_.out (by kernel_rfl)) (fun _ _ _ h => h) (Or.inr ⟨by rfl, rfl⟩) ?_ ?_
               rotate_left
               ·simp only [Act.put, List.setIfInBounds_toArray, List.set_cons_zero, List.set_cons_succ, i64_w, i32_w]; rfl
               refine pure_ (i := 45) (N := some 165) (v := ?_) (a' := ?_) (msk 46 1) rfl rfl (any_of HT_.out (by kernel_rfl)) (fun _ _ _ h => h) (Or.inl ⟨by rfl, ?_⟩) ?_ ?_
               rotate_left
               ·intro w'; go_simp; with_reducible rfl
               rotate_left
               ·simp only [Act.put, List.setIfInBounds_toArray, List.set_cons_zero, List.set_cons_succ, i64_w, i32_w]; rfl
               refine pure_ (i := 46) (N := some 4) (v := ?_) (a' := ?_) (msk 47 0) rfl rfl (any_of HT_.out (by kernel_rfl)) (fun _ _ _ h => h) (Or.inl ⟨by rfl, ?_⟩) ?_ ?_
               rotate_left
               ·intro w'; go_simp; with_reducible rfl
               rotate_left
               ·simp only [Act.put, List.setIfInBounds_toArray, List.set_cons_zero, List.set_cons_succ, i64_w, i32_w]; rfl
               refine done_ (done_of HT_.out (by kernel_rfl)) ?_
               try go_wp2
               go_ret
               exact ⟨by first | rfl | (simp [errW_none, errW_some] <;> rfl) | (simp [*, errW_none, errW_some] <;> rfl), by repeat (first | (with_reducible first | exact HB.out | apply below_alloc | apply pw_below_drewN | apply below_drew1) | exact HB.out)⟩
             ·rw [if_neg c64] at H
              exact absurd H (by simp)
            ·rw [if_neg c62] at H
             exact absurd H (by simp)
           ·rw [if_neg c60] at H
            have c60b0 : ((t190.length : Int) == (t185.length : Int)) = false := beq_eq_false_iff_ne.mpr c60
            have c60b1 : ((t190.length : Int) != (t185.length : Int)) = true := bne_iff_ne.mpr c60
            have c60b2 : (t190.length == t185.length) = false := by first | simpa using c60 | (simp at c60 ⊢; omega)
            obtain rfl := Option.some.inj H
            have p199 : 0 ≤ (t188 : Int) := of_decide_eq_true (by first | (with_reducible assumption) | assumption)
            have q199 : t188 < (t185.length : Int) := of_decide_eq_true (by first | (with_reducible assumption) | assumption)
            obtain ⟨ad199, e199, hx199_0, hx199_1⟩ := at_T32 (Kd.R_reads' HO_5.out).2.2 t188 p199 q199
            cases e199
            replace p199 := eq_true p199
            replace q199 := eq_true q199
            try go_wp2
            have n0_ := Aside0.mk (Kd.R_drew HO_5.out)
            have n1_ := Aside0.mk (Kd.R_drew HO_9.out)
            have n2_ := Aside0.mk (below_drew1 HB.out)
            clear HO_5
            clear HO_9
            clear HB
            have HO_5 := n0_
            have HO_9 := n1_
            have HB := n2_
            clear n0_ n1_ n2_
            obtain ⟨Ao99, co99, eo99⟩ := Kd.R_slice HO_9.out
            (first | subst eo99 | (injection eo99 with f1_ f2_ f3_; have f4_ := f1_.symm; have f5_ := f3_.symm; clear f1_ f2_ f3_; subst f4_; subst f5_))
            refine start_ (n := 47) (S := fun w' => True) (ds := []) (msk 0 47) (by kernel_rfl) rfl rfl trivial (fun hHeld => ?_); refine with_tabW rickyardlaw5_RunsFirst.tab16 rickyardlaw5_RunsFirst.bits16 (fun HT_ HW_ => ?_)
            generalize wr.drew = w98 at HO_5 HO_9 HB hHeld ⊢
            refine pure_ (i := 0) (N := some 120) (v := ?_) (a' := ?_) (msk 1 46) rfl rfl (any_of HT_.out (by kernel_rfl)) (fun _ _ _ h => h) (Or.inl ⟨by rfl, ?_⟩) ?_ ?_
            rotate_left
            ·intro w'; go_simp; with_reducible rfl
            rotate_left
            ·simp only [Act.put, List.setIfInBounds_toArray, List.set_cons_zero, List.set_cons_succ, i64_w, i32_w]; rfl
            refine pure_ (i := 1) (N := some 121) (v := ?_) (a' := ?_) (msk 2 45) rfl rfl (any_of HT_.out (by kernel_rfl)) (fun _ _ _ h => h) (Or.inl ⟨by rfl, ?_⟩) ?_ ?_
            rotate_left
            ·intro w'; go_simp; with_reducible rfl
            rotate_left
            ·simp only [Act.put, List.setIfInBounds_toArray, List.set_cons_zero, List.set_cons_succ, i64_w, i32_w]; rfl
            refine pure_ (i := 2) (N := some 122) (v := ?_) (a' := ?_) (msk 3 44) rfl rfl (any_of HT_.out (by kernel_rfl)) (fun _ _ _ h => h) (Or.inl ⟨by rfl, ?_⟩) ?_ ?_
            rotate_left
            ·intro w'; go_simp; with_reducible rfl
            rotate_left
            ·simp only [Act.put, List.setIfInBounds_toArray, List.set_cons_zero, List.set_cons_succ, i64_w, i32_w]; rfl
            refine pure_ (i := 3) (N := some 123) (v := ?_) (a' := ?_) (msk 4 43) rfl rfl (any_of HT_.out (by kernel_rfl)) (fun _ _ _ h => h) (Or.inl ⟨by rfl, ?_⟩) ?_ ?_
            rotate_left
            ·intro w'; go_simp; with_reducible rfl
            rotate_left
            ·simp only [Act.put, List.setIfInBounds_toArray, List.set_cons_zero, List.set_cons_succ, i64_w, i32_w]; rfl
            refine pure_ (i := 4) (N := some 124) (v := ?_) (a' := ?_) (msk 5 42) rfl rfl (any_of HT_.out (by kernel_rfl)) (fun _ _ _ h => h) (Or.inl ⟨by rfl, ?_⟩) ?_ ?_
            rotate_left
            ·intro w'; go_simp; with_reducible rfl
            rotate_left
            ·simp only [Act.put, List.setIfInBounds_toArray, List.set_cons_zero, List.set_cons_succ, i64_w, i32_w]; rfl
            refine pure_ (i := 5) (N := some 125) (v := ?_) (a' := ?_) (msk 6 41) rfl rfl (any_of HT_.out (by kernel_rfl)) (fun _ _ _ h => h) (Or.inl ⟨by rfl, ?_⟩) ?_ ?_
            rotate_left
            ·intro w'; go_simp; with_reducible rfl
            rotate_left
            ·simp only [Act.put, List.setIfInBounds_toArray, List.set_cons_zero, List.set_cons_succ, i64_w, i32_w]; rfl
            refine pure_ (i := 6) (N := some 126) (v := undef) (a' := ?_) (msk 7 40) rfl rfl (any_of HT_.out (by kernel_rfl)) (fun _ _ _ h => h) (Or.inr ⟨by rfl, rfl⟩) ?_ ?_
            rotate_left
            ·simp only [Act.put, List.setIfInBounds_toArray, List.set_cons_zero, List.set_cons_succ, i64_w, i32_w]; rfl
            refine pure_ (i := 7) (N := some 127) (v := undef) (a' := ?_) (msk 8 39) rfl rfl (any_of HT_.out (by kernel_rfl)) (fun _ _ _ h => h) (Or.inr ⟨by rfl, rfl⟩) ?_ ?_
            rotate_left
            ·simp only [Act.put, List.setIfInBounds_toArray, List.set_cons_zero, List.set_cons_succ, i64_w, i32_w]; rfl
            refine pure_ (i := 8) (N := some 128) (v := undef) (a' := ?_) (msk 9 38) rfl rfl (any_of HT_.out (by kernel_rfl)) (fun _ _ _ h => h) (Or.inr ⟨by rfl, rfl⟩) ?_ ?_
            rotate_left
            ·simp only [Act.put, List.setIfInBounds_toArray, List.set_cons_zero, List.set_cons_succ, i64_w, i32_w]; rfl
            refine pure_ (i := 9) (N := some 129) (v := undef) (a' := ?_) (msk 10 37) rfl rfl (any_of HT_.out (by kernel_rfl)) (fun _ _ _ h => h) (Or.inr ⟨by rfl, rfl⟩) ?_ ?_
            rotate_left
            ·simp only [Act.put, List.setIfInBounds_toArray, List.set_cons_zero, List.set_cons_succ, i64_w, i32_w]; rfl
            refine pure_ (i := 10) (N := some 130) (v := undef) (a' := ?_) (msk 11 36) rfl rfl (any_of HT_.out (by kernel_rfl)) (fun _ _ _ h => h) (Or.inr ⟨by rfl, rfl⟩) ?_ ?_
            rotate_left
            ·simp only [Act.put, List.setIfInBounds_toArray, List.set_cons_zero, List.set_cons_succ, i64_w, i32_w]; rfl
            refine pure_ (i := 11) (N := some 131) (v := undef) (a' := ?_) (msk 12 35) rfl rfl (any_of HT_.out (by kernel_rfl)) (fun _ _ _ h => h) (Or.inr ⟨by rfl, rfl⟩) ?_ ?_
            rotate_left
            ·simp only [Act.put, List.setIfInBounds_toArray, List.set_cons_zero, List.set_cons_succ, i64_w, i32_w]; rfl
            refine pure_ (i := 12) (N := some 132) (v := undef) (a' := ?_) (msk 13 34) rfl rfl (any_of HT_.out (by kernel_rfl)) (fun _ _ _ h => h) (Or.inr ⟨by rfl, rfl⟩) ?_ ?_
            rotate_left
            ·simp only [Act.put, List.setIfInBounds_toArray, List.set_cons_zero, List.set_cons_succ, i64_w, i32_w]; rfl
            refine pure_ (i := 13) (N := some 133) (v := ?_) (a' := ?_) (msk 14 33) rfl rfl (any_of HT_.out (by kernel_rfl)) (fun _ _ _ h => h) (Or.inl ⟨by rfl, ?_⟩) ?_ ?_
            rotate_left
            ·intro w'; go_simp; with_reducible rfl
            rotate_left
            ·simp only [Act.put, List.setIfInBounds_toArray, List.set_cons_zero, List.set_cons_succ, i64_w, i32_w]; rfl
            refine pure_ (i := 14) (N := some 134) (v := ?_) (a' := ?_) (msk 15 32) rfl rfl (any_of HT_.out (by kernel_rfl)) (fun _ _ _ h => h) (Or.inl ⟨by rfl, ?_⟩) ?_ ?_
            rotate_left
            ·intro w'; go_simp; with_reducible rfl
            rotate_left
            ·simp only [Act.put, List.setIfInBounds_toArray, List.set_cons_zero, List.set_cons_succ, i64_w, i32_w]; rfl
            refine pure_ (i := 15) (N := some 135) (v := undef) (a' := ?_) (msk 16 31) rfl rfl (any_of HT_.out (by kernel_rfl)) (fun _ _ _ h => h) (Or.inr ⟨by rfl, rfl⟩) ?_ ?_
            rotate_left
            ·simp only [Act.put, List.setIfInBounds_toArray, List.set_cons_zero, List.set_cons_succ, i64_w, i32_w]; rfl
            refine pure_ (i := 16) (N := some 136) (v := undef) (a' := ?_) (msk 17 30) rfl rfl (any_of HT_.out (by kernel_rfl)) (fun _ _ _ h => h) (Or.inr ⟨by rfl, rfl⟩) ?_ ?_
            rotate_left
            ·simp only [Act.put, List.setIfInBounds_toArray, List.set_cons_zero, List.set_cons_succ, i64_w, i32_w]; rfl
            refine pure_ (i := 17) (N := some 137) (v := undef) (a' := ?_) (msk 18 29) rfl rfl (any_of HT_.out (by kernel_rfl)) (fun _ _ _ h => h) (Or.inr ⟨by rfl, rfl⟩) ?_ ?_
            rotate_left
            ·simp only [Act.put, List.setIfInBounds_toArray, List.set_cons_zero, List.set_cons_succ, i64_w, i32_w]; rfl
            refine pure_ (i := 18) (N := some 138) (v := undef) (a' := ?_) (msk 19 28) rfl rfl (any_of HT_.out (by kernel_rfl)) (fun _ _ _ h => h) (Or.inr ⟨by rfl, rfl⟩) ?_ ?_
            rotate_left
            ·simp only [Act.put, List.setIfInBounds_toArray, List.set_cons_zero, List.set_cons_succ, i64_w, i32_w]; rfl
            refine pure_ (i := 19) (N := some 139) (v := undef) (a' := ?_) (msk 20 27) rfl rfl (any_of HT_.out (by kernel_rfl)) (fun _ _ _ h => h) (Or.inr ⟨by rfl, rfl⟩) ?_ ?_
            rotate_left
            ·simp only [Act.put, List.setIfInBounds_toArray, List.set_cons_zero, List.set_cons_succ, i64_w, i32_w]; rfl
            refine pure_ (i := 20) (N := some 140) (v := undef) (a' := ?_) (msk 21 26) rfl rfl (any_of HT_.out (by kernel_rfl)) (fun _ _ _ h => h) (Or.inr ⟨by rfl, rfl⟩) ?_ ?_
            rotate_left
            ·simp only [Act.put, List.setIfInBounds_toArray, List.set_cons_zero, List.set_cons_succ, i64_w, i32_w]; rfl
            refine pure_ (i := 21) (N := some 141) (v := undef) (a' := ?_) (msk 22 25) rfl rfl (any_of HT_.out (by kernel_rfl)) (fun _ _ _ h => h) (Or.inr ⟨by rfl, rfl⟩) ?_ ?_
            rotate_left
            ·simp only [Act.put, List.setIfInBounds_toArray, List.set_cons_zero, List.set_cons_succ, i64_w, i32_w]; rfl
            refine pure_ (i := 22) (N := some 142) (v := undef) (a' := ?_) (msk 23 24) rfl rfl (any_of HT_.out (by kernel_rfl)) (fun _ _ _ h => h) (Or.inr ⟨by rfl, rfl⟩) ?_ ?_
            rotate_left
            ·simp only [Act.put, List.setIfInBounds_toArray, List.set_cons_zero, List.set_cons_succ, i64_w, i32_w]; rfl
            refine pure_ (i := 23) (N := some 143) (v := undef) (a' := ?_) (msk 24 23) rfl rfl (any_of HT_.out (by kernel_rfl)) (fun _ _ _ h => h) (Or.inr ⟨by rfl, rfl⟩) ?_ ?_
            rotate_left
            ·simp only [Act.put, List.setIfInBounds_toArray, List.set_cons_zero, List.set_cons_succ, i64_w, i32_w]; rfl
            refine pure_ (i := 24) (N := some 144) (v := undef) (a' := ?_) (msk 25 22) rfl rfl (any_of HT_.out (by kernel_rfl)) (fun _ _ _ h => h) (Or.inr ⟨by rfl, rfl⟩) ?_ ?_
            rotate_left
            ·simp only [Act.put, List.setIfInBounds_toArray, List.set_cons_zero, List.set_cons_succ, i64_w, i32_w]; rfl
            refine pure_ (i := 25) (N := some 145) (v := undef) (a' := ?_) (msk 26 21) rfl rfl (any_of HT_.out (by kernel_rfl)) (fun _ _ _ h => h) (Or.inr ⟨by rfl, rfl⟩) ?_ ?_
            rotate_left
            ·simp only [Act.put, List.setIfInBounds_toArray, List.set_cons_zero, List.set_cons_succ, i64_w, i32_w]; rfl
            refine pure_ (i := 26) (N := some 146) (v := undef) (a' := ?_) (msk 27 20) rfl rfl (any_of HT_.out (by kernel_rfl)) (fun _ _ _ h => h) (Or.inr ⟨by rfl, rfl⟩) ?_ ?_
            rotate_left
            ·simp only [Act.put, List.setIfInBounds_toArray, List.set_cons_zero, List.set_cons_succ, i64_w, i32_w]; rfl
            refine pure_ (i := 27) (N := some 147) (v := undef) (a' := ?_) (msk 28 19) rfl rfl (any_of HT_.out (by kernel_rfl)) (fun _ _ _ h => h) (Or.inr ⟨by rfl, rfl⟩) ?_ ?_
            rotate_left
            ·simp only [Act.put, List.setIfInBounds_toArray, List.set_cons_zero, List.set_cons_succ, i64_w, i32_w]; rfl
            refine pure_ (i := 28) (N := some 148) (v := undef) (a' := ?_) (msk 29 18) rfl rfl (any_of HT_.out (by kernel_rfl)) (fun _ _ _ h => h) (Or.inr ⟨by rfl, rfl⟩) ?_ ?_
            rotate_left
            ·simp only [Act.put, List.setIfInBounds_toArray, List.set_cons_zero, List.set_cons_succ, i64_w, i32_w]; rfl
            refine pure_ (i := 29) (N := some 149) (v := undef) (a' := ?_) (msk 30 17) rfl rfl (any_of HT_.out (by kernel_rfl)) (fun _ _ _ h => h) (Or.inr ⟨by rfl, rfl⟩) ?_ ?_
            rotate_left
            ·simp only [Act.put, List.setIfInBounds_toArray, List.set_cons_zero, List.set_cons_succ, i64_w, i32_w]; rfl
            refine pure_ (i := 30) (N := some 150) (v := undef) (a' := ?_) (msk 31 16) rfl rfl (any_of HT_.out (by kernel_rfl)) (fun _ _ _ h => h) (Or.inr ⟨by rfl, rfl⟩) ?_ ?_
            rotate_left
            ·simp only [Act.put, List.setIfInBounds_toArray, List.set_cons_zero, List.set_cons_succ, i64_w, i32_w]; rfl
            refine pure_ (i := 31) (N := some 151) (v := ?_) (a' := ?_) (msk 32 15) rfl rfl (any_of HT_.out (by kernel_rfl)) (fun _ _ _ h => h) (Or.inl ⟨by rfl, ?_⟩) ?_ ?_
            rotate_left
            ·intro w'; go_simp; with_reducible rfl
            rotate_left
            ·simp only [Act.put, List.setIfInBounds_toArray, List.set_cons_zero, List.set_cons_succ, i64_w, i32_w]; rfl
            refine pure_ (i := 32) (N := some 152) (v := ?_) (a' := ?_) (msk 33 14) rfl rfl (any_of HT_.out (by kernel_rfl)) (fun _ _ _ h => h) (Or.inl ⟨by rfl, ?_⟩) ?_ ?_
            rotate_left
            ·intro w'; go_simp; with_reducible rfl
            rotate_left
            ·simp only [Act.put, List.setIfInBounds_toArray, List.set_cons_zero, List.set_cons_succ, i64_w, i32_w]; rfl
            refine pure_ (i := 33) (N := some 153) (v := undef) (a' := ?_) (msk 34 13) rfl rfl (any_of HT_.out (by kernel_rfl)) (fun _ _ _ h => h) (Or.inr ⟨by rfl, rfl⟩) ?_ ?_
            rotate_left
            ·simp only [Act.put, List.setIfInBounds_toArray, List.set_cons_zero, List.set_cons_succ, i64_w, i32_w]; rfl
            refine pure_ (i := 34) (N := some 154) (v := undef) (a' := ?_) (msk 35 12) rfl rfl (any_of HT_.out (by kernel_rfl)) (fun _ _ _ h => h) (Or.inr ⟨by rfl, rfl⟩) ?_ ?_
            rotate_left
            ·simp only [Act.put, List.setIfInBounds_toArray, List.set_cons_zero, List.set_cons_succ, i64_w, i32_w]; rfl
            refine pure_ (i := 35) (N := some 155) (v := undef) (a' := ?_) (msk 36 11) rfl rfl (any_of HT_.out (by kernel_rfl)) (fun _ _ _ h => h) (Or.inr ⟨by rfl, rfl⟩) ?_ ?_
            rotate_left
            ·simp only [Act.put, List.setIfInBounds_toArray, List.set_cons_zero, List.set_cons_succ, i64_w, i32_w]; rfl
            refine pure_ (i := 36) (N := some 156) (v := undef) (a' := ?_) (msk 37 10) rfl rfl (any_of HT_.out (by kernel_rfl)) (fun _ _ _ h => h) (Or.inr ⟨by rfl, rfl⟩) ?_ ?_
            rotate_left
            ·simp only [Act.put, List.setIfInBounds_toArray, List.set_cons_zero, List.set_cons_succ, i64_w, i32_w]; rfl
            refine pure_ (i := 37) (N := some 157) (v := undef) (a' := ?_) (msk 38 9) rfl rfl (any_of HT_.out (by kernel_rfl)) (fun _ _ _ h => h) (Or.inr ⟨by rfl, rfl⟩) ?_ ?_
            rotate_left
            ·simp only [Act.put, List.setIfInBounds_toArray, List.set_cons_zero, List.set_cons_succ, i64_w, i32_w]; rfl
            refine pure_ (i := 38) (N := some 158) (v := undef) (a' := ?_) (msk 39 8) rfl rfl (any_of HT_.out (by kernel_rfl)) (fun _ _ _ h => h) (Or.inr ⟨by rfl, rfl⟩) ?_ ?_
            rotate_left
            ·simp only [Act.put, List.setIfInBounds_toArray, List.set_cons_zero, List.set_cons_succ, i64_w, i32_w]; rfl
            refine pure_ (i := 39) (N := some 159) (v := undef) (a' := ?_) (msk 40 7) rfl rfl (any_of HT_.out (by kernel_rfl)) (fun _ _ _ h => h) (Or.inr ⟨by rfl, rfl⟩) ?_ ?_
            rotate_left
            ·simp only [Act.put, List.setIfInBounds_toArray, List.set_cons_zero, List.set_cons_succ, i64_w, i32_w]; rfl
            refine pure_ (i := 40) (N := some 160) (v := undef) (a' := ?_) (msk 41 6) rfl rfl (any_of HT_.out (by kernel_rfl)) (fun _ _ _ h => h) (Or.inr ⟨by rfl, rfl⟩) ?_ ?_
            rotate_left
            ·simp only [Act.put, List.setIfInBounds_toArray, List.set_cons_zero, List.set_cons_succ, i64_w, i32_w]; rfl
            refine pure_ (i := 41) (N := some 161) (v := undef) (a' := ?_) (msk 42 5) rfl rfl (any_of HT_.out (by kernel_rfl)) (fun _ _ _ h => h) (Or.inr ⟨by rfl, rfl⟩) ?_ ?_
            rotate_left
            ·simp only [Act.put, List.setIfInBounds_toArray, List.set_cons_zero, List.set_cons_succ, i64_w, i32_w]; rfl
            refine pure_ (i := 42) (N := some 162) (v := ?_) (a' := ?_) (msk 43 4) rfl rfl (any_of HT_.out (by kernel_rfl)) (fun _ _ _ h => h) (Or.inl ⟨by rfl, ?_⟩) ?_ ?_
            rotate_left
            ·intro w'; go_simp; with_reducible rfl
            rotate_left
            ·simp only [Act.put, List.setIfInBounds_toArray, List.set_cons_zero, List.set_cons_succ, i64_w, i32_w]; rfl
            refine pure_ (i := 43) (N := some 163) (v := ?_) (a' := ?_) (msk 44 3) rfl rfl (any_of HT_.out (by kernel_rfl)) (fun _ _ _ h => h) (Or.inl ⟨by rfl, ?_⟩) ?_ ?_
            rotate_left
            ·intro w'; go_simp; with_reducible rfl
            rotate_left
            ·simp only [Act.put, List.setIfInBounds_toArray, List.set_cons_zero, List.set_cons_succ, i64_w, i32_w]; rfl
            refine pure_ (i := 44) (N := some 164) (v := undef) (a' := ?_) (msk 45 2) rfl rfl (any_of HT_.out (by kernel_rfl)) (fun _ _ _ h => h) (Or.inr ⟨by rfl, rfl⟩) ?_ ?_
            rotate_left
            ·simp only [Act.put, List.setIfInBounds_toArray, List.set_cons_zero, List.set_cons_succ, i64_w, i32_w]; rfl
            refine pure_ (i := 45) (N := some 165) (v := ?_) (a' := ?_) (msk 46 1) rfl rfl (any_of HT_.out (by kernel_rfl)) (fun _ _ _ h => h) (Or.inl ⟨by rfl, ?_⟩) ?_ ?_
            rotate_left
            ·intro w'; go_simp; with_reducible rfl
            rotate_left
            ·simp only [Act.put, List.setIfInBounds_toArray, List.set_cons_zero, List.set_cons_succ, i64_w, i32_w]; rfl
            refine pure_ (i := 46) (N := some 4) (v := ?_) (a' := ?_) (msk 47 0) rfl rfl (any_of HT_.out (by kernel_rfl)) (fun _ _ _ h => h) (Or.inl ⟨by rfl, ?_⟩) ?_ ?_
            rotate_left
            ·intro w'; go_simp; with_reducible rfl
            rotate_left
            ·simp only [Act.put, List.setIfInBounds_toArray, List.set_cons_zero, List.set_cons_succ, i64_w, i32_w]; rfl
            refine done_ (done_of HT_.out (by kernel_rfl)) ?_
            try go_wp2
            go_ret
            exact ⟨by first | rfl | (simp [errW_none, errW_some] <;> rfl) | (simp [*, errW_none, errW_some] <;> rfl), by repeat (first | (with_reducible first | exact HB.out | apply below_alloc | apply pw_below_drewN | apply below_drew1) | exact HB.out)⟩
         ·rw [if_neg c24] at H
          exact absurd H (by simp)
        ·rw [if_neg c23] at H
         exact absurd H (by simp)
 ·replace c6 := Bool.eq_false_iff.mpr c6
  subst c6
  have H1 : (if t192 = 3 then (if t188 = 0 then ((rickyardlaw5_awake.f k).bind fun t195 => (some t195)) else (some false)) else (some false)) = some r := by rw [if_neg (show ¬ (false = true) by decide)] at H; exact H
  clear H
  have H := H1
  clear H1
  by_cases c100 : t192 = 3
  ·rw [if_pos c100] at H
   have c100b0 : (t192 == 3) = true := beq_iff_eq.mpr c100
   have c100b1 : (t192 != 3) = false := bne_eq_false_iff_eq.mpr c100
   clear c100
   by_cases c101 : t188 = 0
   ·rw [if_pos c101] at H
    have c101b0 : (t188 == 0) = true := beq_iff_eq.mpr c101
    have c101b1 : (t188 != 0) = false := bne_eq_false_iff_eq.mpr c101
    clear c101
    replace H := Option.bind_eq_some_iff.mp H
    obtain ⟨t195, A1020, H⟩ := H
    replace H : (some t195) = some r := H
    have A102 := Aside0.mk A1020
    clear A1020
    obtain rfl := Option.some.inj H
    go_enter Try.func3, Try.ntmps3
    go_wp2_with (first | ((with_reducible refine gate_callee (f := 13) rfl ?_); refine goesL_ (some 14) rfl rfl Try.func13 (by kernel_rfl) rfl #[.slice A0 l0.length c0] rfl (by (try simp only [List.map_toArray, List.map_cons, List.map_nil]); first | done | rfl | (simp only [List.length_drop, List.length_take]; rfl)) ?_; (with_reducible refine (rickyardlaw5_Made.calls k _ _ l0 t185 _ ?side1 ?side2 A3.out).mono ?_); (case side1 => repeat (first | exact HR0.out | (with_reducible refine Kd.C_alloc ?_ _) | (with_reducible refine Kd.C_drewN ?_ _) | (with_reducible refine Kd.C_drew ?_))); (case side2 => exact HC0.out); rintro e w103 ⟨v186, rfl, ho0, hb⟩; refine ⟨_, rfl, ?_⟩; have n0_ := Aside0.mk (Kd.R_lower ho0 (below_size (by repeat (first | (with_reducible first | exact HB.out | apply below_alloc | apply pw_below_drewN | apply below_drew1) | exact HB.out)))); have n1_ := Aside0.mk (below_step (by repeat (first | (with_reducible first | exact HB.out | apply below_alloc | apply pw_below_drewN | apply below_drew1) | exact HB.out)) hb); clear HB; have HO187 := n0_; have HB := n1_; clear n0_ n1_; (try clear hb); (try clear hb2); (try clear hk); (try clear hi); (try clear ho0); obtain ⟨Ao104, co104, eo104⟩ := Kd.R_slice HO187.out; subst eo104) | ((with_reducible refine gate_callee (f := 14) rfl ?_); refine goesL_ (some 22) rfl rfl Try.func14 (by kernel_rfl) rfl #[.slice Ao104 t185.length co104, .int .i64 (wrap64 (1 + (Int.tmod (wrap64 (a1)) 24)))] rfl (by (try simp only [List.map_toArray, List.map_cons, List.map_nil]); first | done | rfl | (simp only [List.length_drop, List.length_take]; rfl)) ?_; (with_reducible refine (runs_Fit.calls _ _ t185 (wrap64 (1 + (Int.tmod (wrap64 (a1)) 24))) t188 false _ ?side1 ?side2 A4.out).mono ?_); (case side1 => repeat (first | exact (Kd.R_reads' HO187.out).2.2 | (with_reducible refine Kd.C_alloc ?_ _) | (with_reducible refine Kd.C_drewN ?_ _) | (with_reducible refine Kd.C_drew ?_))); (case side2 => exact (Kd.R_reads' HO187.out).2.1); rintro e w105 ⟨rfl, hb⟩; refine ⟨_, rfl, ?_⟩; have n0_ := Aside0.mk (Kd.R_below (by (with_reducible repeat (first | apply Kd.R_alloc | apply Kd.R_drewN | apply Kd.R_drew)); exact HO187.out) hb); have n1_ := Aside0.mk (below_step (by repeat (first | (with_reducible first | exact HB.out | apply below_alloc | apply pw_below_drewN | apply below_drew1) | exact HB.out)) hb); clear HO187; clear HB; have HO187 := n0_; have HB := n1_; clear n0_ n1_; (try clear hb); (try clear hb2); (try clear hk); (try clear hi)) | ((with_reducible refine gate_callee (f := 15) rfl ?_); refine goesL_ (some 28) rfl rfl Try.func15 (by kernel_rfl) rfl #[.slice Ao104 t185.length co104, .int .i64 (wrap64 (1 + (Int.tmod (wrap64 (a1)) 24)))] rfl (by (try simp only [List.map_toArray, List.map_cons, List.map_nil]); first | done | rfl | (simp only [List.length_drop, List.length_take]; rfl)) ?_; (with_reducible refine (runs_Take.calls _ _ t185 (wrap64 (1 + (Int.tmod (wrap64 (a1)) 24))) t190 t191 t192 _ ?side1 ?side2 A5.out).mono ?_); (case side1 => repeat (first | exact (Kd.R_reads' HO187.out).2.2 | (with_reducible refine Kd.C_alloc ?_ _) | (with_reducible refine Kd.C_drewN ?_ _) | (with_reducible refine Kd.C_drew ?_))); (case side2 => exact (Kd.R_reads' HO187.out).2.1); rintro e w106 ⟨v193, rfl, ho0, hb⟩; refine ⟨_, rfl, ?_⟩; have n0_ := Aside0.mk (Kd.R_elder' (by (with_reducible repeat (first | apply Kd.R_alloc | apply Kd.R_drewN | apply Kd.R_drew)); exact HO187.out) (Kd.R_base ho0) hb); have n1_ := Aside0.mk (Kd.R_lower (Kd.R_new' ho0 (Kd.R_lt (by (with_reducible repeat (first | apply Kd.R_alloc | apply Kd.R_drewN | apply Kd.R_drew)); exact HO187.out))) (below_size (by repeat (first | (with_reducible first | exact HB.out | apply below_alloc | apply pw_below_drewN | apply below_drew1) | exact HB.out)))); have n2_ := Aside0.mk (below_step (by repeat (first | (with_reducible first | exact HB.out | apply below_alloc | apply pw_below_drewN | apply below_drew1) | exact HB.out)) hb); clear HO187; clear HB; have HO187 := n0_; have HO194 := n1_; have HB := n2_; clear n0_ n1_ n2_; (try clear hb); (try clear hb2); (try clear hk); (try clear hi); (try clear ho0)) | (go_at_call 16; (with_reducible refine (rickyardlaw5_awake.calls k  t195 _ A102.out).mono ?_); rintro e w107 ⟨rfl, hb⟩; have n0_ := Aside0.mk (Kd.R_below (by (with_reducible repeat (first | apply Kd.R_alloc | apply Kd.R_drewN | apply Kd.R_drew)); exact HO187.out) hb); have n1_ := Aside0.mk (Kd.R_below (by (with_reducible repeat (first | apply Kd.R_alloc | apply Kd.R_drewN | apply Kd.R_drew)); exact HO194.out) hb); have n2_ := Aside0.mk (below_step (by repeat (first | (with_reducible first | exact HB.out | apply below_alloc | apply pw_below_drewN | apply below_drew1) | exact HB.out)) hb); clear HO187; clear HO194; clear HB; have HO187 := n0_; have HO194 := n1_; have HB := n2_; clear n0_ n1_ n2_; (try clear hb); (try clear hb2); (try clear hk); (try clear hi)))
    go_ret
    exact ⟨by first | rfl | (simp [errW_none, errW_some] <;> rfl) | (simp [*, errW_none, errW_some] <;> rfl), by repeat (first | (with_reducible first | exact HB.out | apply below_alloc | apply pw_below_drewN | apply below_drew1) | exact HB.out)⟩
   ·rw [if_neg c101] at H
    have c101b0 : (t188 == 0) = false := beq_eq_false_iff_ne.mpr c101
    have c101b1 : (t188 != 0) = true := bne_iff_ne.mpr c101
    obtain rfl := Option.some.inj H
    go_enter Try.func3, Try.ntmps3
    go_wp2_with (first | ((with_reducible refine gate_callee (f := 13) rfl ?_); refine goesL_ (some 14) rfl rfl Try.func13 (by kernel_rfl) rfl #[.slice A0 l0.length c0] rfl (by (try simp only [List.map_toArray, List.map_cons, List.map_nil]); first | done | rfl | (simp only [List.length_drop, List.length_take]; rfl)) ?_; (with_reducible refine (rickyardlaw5_Made.calls k _ _ l0 t185 _ ?side1 ?side2 A3.out).mono ?_); (case side1 => repeat (first | exact HR0.out | (with_reducible refine Kd.C_alloc ?_ _) | (with_reducible refine Kd.C_drewN ?_ _) | (with_reducible refine Kd.C_drew ?_))); (case side2 => exact HC0.out); rintro e w108 ⟨v186, rfl, ho0, hb⟩; refine ⟨_, rfl, ?_⟩; have n0_ := Aside0.mk (Kd.R_lower ho0 (below_size (by repeat (first | (with_reducible first | exact HB.out | apply below_alloc | apply pw_below_drewN | apply below_drew1) | exact HB.out)))); have n1_ := Aside0.mk (below_step (by repeat (first | (with_reducible first | exact HB.out | apply below_alloc | apply pw_below_drewN | apply below_drew1) | exact HB.out)) hb); clear HB; have HO187 := n0_; have HB := n1_; clear n0_ n1_; (try clear hb); (try clear hb2); (try clear hk); (try clear hi); (try clear ho0); obtain ⟨Ao109, co109, eo109⟩ := Kd.R_slice HO187.out; subst eo109) | ((with_reducible refine gate_callee (f := 14) rfl ?_); refine goesL_ (some 22) rfl rfl Try.func14 (by kernel_rfl) rfl #[.slice Ao109 t185.length co109, .int .i64 (wrap64 (1 + (Int.tmod (wrap64 (a1)) 24)))] rfl (by (try simp only [List.map_toArray, List.map_cons, List.map_nil]); first | done | rfl | (simp only [List.length_drop, List.length_take]; rfl)) ?_; (with_reducible refine (runs_Fit.calls _ _ t185 (wrap64 (1 + (Int.tmod (wrap64 (a1)) 24))) t188 false _ ?side1 ?side2 A4.out).mono ?_); (case side1 => repeat (first | exact (Kd.R_reads' HO187.out).2.2 | (with_reducible refine Kd.C_alloc ?_ _) | (with_reducible refine Kd.C_drewN ?_ _) | (with_reducible refine Kd.C_drew ?_))); (case side2 => exact (Kd.R_reads' HO187.out).2.1); rintro e w110 ⟨rfl, hb⟩; refine ⟨_, rfl, ?_⟩; have n0_ := Aside0.mk (Kd.R_below (by (with_reducible repeat (first | apply Kd.R_alloc | apply Kd.R_drewN | apply Kd.R_drew)); exact HO187.out) hb); have n1_ := Aside0.mk (below_step (by repeat (first | (with_reducible first | exact HB.out | apply below_alloc | apply pw_below_drewN | apply below_drew1) | exact HB.out)) hb); clear HO187; clear HB; have HO187 := n0_; have HB := n1_; clear n0_ n1_; (try clear hb); (try clear hb2); (try clear hk); (try clear hi)) | ((with_reducible refine gate_callee (f := 15) rfl ?_); refine goesL_ (some 28) rfl rfl Try.func15 (by kernel_rfl) rfl #[.slice Ao109 t185.length co109, .int .i64 (wrap64 (1 + (Int.tmod (wrap64 (a1)) 24)))] rfl (by (try simp only [List.map_toArray, List.map_cons, List.map_nil]); first | done | rfl | (simp only [List.length_drop, List.length_take]; rfl)) ?_; (with_reducible refine (runs_Take.calls _ _ t185 (wrap64 (1 + (Int.tmod (wrap64 (a1)) 24))) t190 t191 t192 _ ?side1 ?side2 A5.out).mono ?_); (case side1 => repeat (first | exact (Kd.R_reads' HO187.out).2.2 | (with_reducible refine Kd.C_alloc ?_ _) | (with_reducible refine Kd.C_drewN ?_ _) | (with_reducible refine Kd.C_drew ?_))); (case side2 => exact (Kd.R_reads' HO187.out).2.1); rintro e w111 ⟨v193, rfl, ho0, hb⟩; refine ⟨_, rfl, ?_⟩; have n0_ := Aside0.mk (Kd.R_elder' (by (with_reducible repeat (first | apply Kd.R_alloc | apply Kd.R_drewN | apply Kd.R_drew)); exact HO187.out) (Kd.R_base ho0) hb); have n1_ := Aside0.mk (Kd.R_lower (Kd.R_new' ho0 (Kd.R_lt (by (with_reducible repeat (first | apply Kd.R_alloc | apply Kd.R_drewN | apply Kd.R_drew)); exact HO187.out))) (below_size (by repeat (first | (with_reducible first | exact HB.out | apply below_alloc | apply pw_below_drewN | apply below_drew1) | exact HB.out)))); have n2_ := Aside0.mk (below_step (by repeat (first | (with_reducible first | exact HB.out | apply below_alloc | apply pw_below_drewN | apply below_drew1) | exact HB.out)) hb); clear HO187; clear HB; have HO187 := n0_; have HO194 := n1_; have HB := n2_; clear n0_ n1_ n2_; (try clear hb); (try clear hb2); (try clear hk); (try clear hi); (try clear ho0)))
    go_ret
    exact ⟨by first | rfl | (simp [errW_none, errW_some] <;> rfl) | (simp [*, errW_none, errW_some] <;> rfl), by repeat (first | (with_reducible first | exact HB.out | apply below_alloc | apply pw_below_drewN | apply below_drew1) | exact HB.out)⟩
  ·rw [if_neg c100] at H
   have c100b0 : (t192 == 3) = false := beq_eq_false_iff_ne.mpr c100
   have c100b1 : (t192 != 3) = true := bne_iff_ne.mpr c100
   obtain rfl := Option.some.inj H
   go_enter Try.func3, Try.ntmps3
   go_wp2_with (first | ((with_reducible refine gate_callee (f := 13) rfl ?_); refine goesL_ (some 14) rfl rfl Try.func13 (by kernel_rfl) rfl #[.slice A0 l0.length c0] rfl (by (try simp only [List.map_toArray, List.map_cons, List.map_nil]); first | done | rfl | (simp only [List.length_drop, List.length_take]; rfl)) ?_; (with_reducible refine (rickyardlaw5_Made.calls k _ _ l0 t185 _ ?side1 ?side2 A3.out).mono ?_); (case side1 => repeat (first | exact HR0.out | (with_reducible refine Kd.C_alloc ?_ _) | (with_reducible refine Kd.C_drewN ?_ _) | (with_reducible refine Kd.C_drew ?_))); (case side2 => exact HC0.out); rintro e w112 ⟨v186, rfl, ho0, hb⟩; refine ⟨_, rfl, ?_⟩; have n0_ := Aside0.mk (Kd.R_lower ho0 (below_size (by repeat (first | (with_reducible first | exact HB.out | apply below_alloc | apply pw_below_drewN | apply below_drew1) | exact HB.out)))); have n1_ := Aside0.mk (below_step (by repeat (first | (with_reducible first | exact HB.out | apply below_alloc | apply pw_below_drewN | apply below_drew1) | exact HB.out)) hb); clear HB; have HO187 := n0_; have HB := n1_; clear n0_ n1_; (try clear hb); (try clear hb2); (try clear hk); (try clear hi); (try clear ho0); obtain ⟨Ao113, co113, eo113⟩ := Kd.R_slice HO187.out; subst eo113) | ((with_reducible refine gate_callee (f := 14) rfl ?_); refine goesL_ (some 22) rfl rfl Try.func14 (by kernel_rfl) rfl #[.slice Ao113 t185.length co113, .int .i64 (wrap64 (1 + (Int.tmod (wrap64 (a1)) 24)))] rfl (by (try simp only [List.map_toArray, List.map_cons, List.map_nil]); first | done | rfl | (simp only [List.length_drop, List.length_take]; rfl)) ?_; (with_reducible refine (runs_Fit.calls _ _ t185 (wrap64 (1 + (Int.tmod (wrap64 (a1)) 24))) t188 false _ ?side1 ?side2 A4.out).mono ?_); (case side1 => repeat (first | exact (Kd.R_reads' HO187.out).2.2 | (with_reducible refine Kd.C_alloc ?_ _) | (with_reducible refine Kd.C_drewN ?_ _) | (with_reducible refine Kd.C_drew ?_))); (case side2 => exact (Kd.R_reads' HO187.out).2.1); rintro e w114 ⟨rfl, hb⟩; refine ⟨_, rfl, ?_⟩; have n0_ := Aside0.mk (Kd.R_below (by (with_reducible repeat (first | apply Kd.R_alloc | apply Kd.R_drewN | apply Kd.R_drew)); exact HO187.out) hb); have n1_ := Aside0.mk (below_step (by repeat (first | (with_reducible first | exact HB.out | apply below_alloc | apply pw_below_drewN | apply below_drew1) | exact HB.out)) hb); clear HO187; clear HB; have HO187 := n0_; have HB := n1_; clear n0_ n1_; (try clear hb); (try clear hb2); (try clear hk); (try clear hi)) | ((with_reducible refine gate_callee (f := 15) rfl ?_); refine goesL_ (some 28) rfl rfl Try.func15 (by kernel_rfl) rfl #[.slice Ao113 t185.length co113, .int .i64 (wrap64 (1 + (Int.tmod (wrap64 (a1)) 24)))] rfl (by (try simp only [List.map_toArray, List.map_cons, List.map_nil]); first | done | rfl | (simp only [List.length_drop, List.length_take]; rfl)) ?_; (with_reducible refine (runs_Take.calls _ _ t185 (wrap64 (1 + (Int.tmod (wrap64 (a1)) 24))) t190 t191 t192 _ ?side1 ?side2 A5.out).mono ?_); (case side1 => repeat (first | exact (Kd.R_reads' HO187.out).2.2 | (with_reducible refine Kd.C_alloc ?_ _) | (with_reducible refine Kd.C_drewN ?_ _) | (with_reducible refine Kd.C_drew ?_))); (case side2 => exact (Kd.R_reads' HO187.out).2.1); rintro e w115 ⟨v193, rfl, ho0, hb⟩; refine ⟨_, rfl, ?_⟩; have n0_ := Aside0.mk (Kd.R_elder' (by (with_reducible repeat (first | apply Kd.R_alloc | apply Kd.R_drewN | apply Kd.R_drew)); exact HO187.out) (Kd.R_base ho0) hb); have n1_ := Aside0.mk (Kd.R_lower (Kd.R_new' ho0 (Kd.R_lt (by (with_reducible repeat (first | apply Kd.R_alloc | apply Kd.R_drewN | apply Kd.R_drew)); exact HO187.out))) (below_size (by repeat (first | (with_reducible first | exact HB.out | apply below_alloc | apply pw_below_drewN | apply below_drew1) | exact HB.out)))); have n2_ := Aside0.mk (below_step (by repeat (first | (with_reducible first | exact HB.out | apply below_alloc | apply pw_below_drewN | apply below_drew1) | exact HB.out)) hb); clear HO187; clear HB; have HO187 := n0_; have HO194 := n1_; have HB := n2_; clear n0_ n1_ n2_; (try clear hb); (try clear hb2); (try clear hk); (try clear hi); (try clear ho0)))
   go_ret
   exact ⟨by first | rfl | (simp [errW_none, errW_some] <;> rfl) | (simp [*, errW_none, errW_some] <;> rfl), by repeat (first | (with_reducible first | exact HB.out | apply below_alloc | apply pw_below_drewN | apply below_drew1) | exact HB.out)⟩

/-- THE ONE PURE STATEMENT of rickyardlaw5_RunsFirst: yours. -/
def rickyardlaw5_RunsFirst.Pure : Prop := ∀ (l0 : List Int) (a1 : Int), l0.length ≤ maxLen → l0.length * 1 ≤ 140737488351232 → (∀ x ∈ l0, (Lit.int .u8 x).wf = true) → (Lit.int .u8 a1).wf = true → ∃ k, rickyardlaw5_RunsFirst.f k l0 a1 = some true
theorem rickyardlaw5_RunsFirst.walk (P : rickyardlaw5_RunsFirst.Pure) (a0 : Option Addr) (len0 cap0 : Nat) (z0 : List Int) (a1 : Int) (w : World) (w0 : (a0 = none ∧ len0 = 0 ∧ cap0 = 0 ∧ z0 = []) ∨ ∃ x, a0 = some x ∧ len0 ≤ cap0 ∧ cap0 ≤ maxLen ∧ z0.length = cap0 ∧ (∀ i, i < z0.length → w.cell? (x.add i) = some (.int .u8 (z0.getD i 0))) ∧ ∀ n ∈ z0, (Lit.int .u8 n).wf = true) (y0 : len0 * 1 ≤ 140737488351232) (w1 : (Lit.int .u8 a1).wf = true) :
  Calls Try.prog 3 #[.slice a0 len0 cap0, .int .u8 a1] w fun e w' => e = .returned (.bool true) ∧ Below w.heap.size w w' := by
 obtain ⟨l0, rfl, hr0, hm0, hw0, hc0⟩ := ReadsInt.ofRowC w0
 obtain ⟨k, h⟩ := P l0 a1 hm0 y0 hw0 w1
 refine (rickyardlaw5_RunsFirst.calls k _ _ l0 a1 true w (Kd.C_of_reads (d := (0 : Int)) (h1 := fun _ => rfl) hr0) hc0 h).mono ?_
 rintro e w' ⟨rfl, hd⟩
 exact ⟨rfl, hd⟩

end Go.Proofs.Ythbknmblehecaaa.Pr
