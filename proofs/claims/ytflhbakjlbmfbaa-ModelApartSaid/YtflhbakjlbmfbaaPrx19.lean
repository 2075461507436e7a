-- Printed by a program of this session (wip/tools/myprint.py) that runs the kit's print with contracts of this session's own.
import Derived.Test.YtflhbakjlbmfbaaPrx0
import Derived.Test.YtflhbakjlbmfbaaShort
import Derived.Test.YtflhbakjlbmfbaaWTab
import Derived.Test.YtflhbakjlbmfbaaPrx3
namespace Go.Proofs.Ytflhbakjlbmfbaa.Pr
open Go.RowKit Go.Proofs.YtflhbakjlbmfbaaW.PrintWords Go.Proofs.YtflhbakjlbmfbaaW.PrintLast Go.Proofs.YtflhbakjlbmfbaaW.PrintMore
attribute [local go_sem] max2_int min2_int max_two min_two max_three min_three max_four min_four   -- for this text's walks alone
set_option linter.unusedVariables false
set_option linter.unusedSimpArgs false

/-! ### rickyardref1_Class: function 23 -/
mutual
def rickyardref1_Class.j0 : Nat → Int → Bool → Option (Int × Bool)
 | 0, _, _ => none
 | k + 1, x0, x10 => if x10 = true then (some (0, false)) else (rickyardref1_Class.l0 k x0 0)
def rickyardref1_Class.l0 : Nat → Int → Int → Option (Int × Bool)
 | 0, _, _ => none
 | k + 1, x0, x4 => (rickyardref1_Words.f x4).bind fun t263 => (if t263 < x0 then (rickyardref1_Class.l0 k x0 (wrap64 (x4 + 1))) else (some (x4, true)))
end
def rickyardref1_Class.f (k : Nat) (a0 : Int) : Option (Int × Bool) := if a0 < 1 then (rickyardref1_Class.j0 k a0 true) else (rickyardref1_Class.j0 k a0 (decide (a0 > 4096)))
theorem rickyardref1_Class.mono_l : ∀ k, (∀ y0 y1, LeO (rickyardref1_Class.j0 k y0 y1) (rickyardref1_Class.j0 (k + 1) y0 y1)) ∧ (∀ y0 y1, LeO (rickyardref1_Class.l0 k y0 y1) (rickyardref1_Class.l0 (k + 1) y0 y1))
 | 0 => ⟨fun _ _ r h => by simp [rickyardref1_Class.j0] at h, fun _ _ r h => by simp [rickyardref1_Class.l0] at h⟩
 | k + 1 => by
  obtain ⟨ih0, ih1⟩ := rickyardref1_Class.mono_l k
  refine ⟨?_, ?_⟩
  ·intro y0 y1
   unfold rickyardref1_Class.j0
   repeat' first
   | (with_reducible exact ih0 _ _)
   | (with_reducible exact ih1 _ _)
   | (with_reducible exact LeO.refl _)
   | (with_reducible exact LeO.none _)
   | (with_reducible refine LeO.ite ?_ ?_)
   | (with_reducible refine LeO.bind ?_ (fun _ => ?_))
   | exact ih0 _ _
   | exact ih1 _ _
   | exact LeO.none _
   | refine LeO.ite ?_ ?_
   | refine LeO.bind ?_ (fun _ => ?_)
  ·intro y0 y1
   unfold rickyardref1_Class.l0
   repeat' first
   | (with_reducible exact ih0 _ _)
   | (with_reducible exact ih1 _ _)
   | (with_reducible exact LeO.refl _)
   | (with_reducible exact LeO.none _)
   | (with_reducible refine LeO.ite ?_ ?_)
   | (with_reducible refine LeO.bind ?_ (fun _ => ?_))
   | exact ih0 _ _
   | exact ih1 _ _
   | exact LeO.none _
   | refine LeO.ite ?_ ?_
   | refine LeO.bind ?_ (fun _ => ?_)
theorem rickyardref1_Class.mono : ∀ a0 k, LeO (rickyardref1_Class.f k a0) (rickyardref1_Class.f (k + 1) a0) := by
 intro a0 k
 obtain ⟨ih0, ih1⟩ := rickyardref1_Class.mono_l k
 unfold rickyardref1_Class.f
 repeat' first
   | (with_reducible exact ih0 _ _)
   | (with_reducible exact ih1 _ _)
   | (with_reducible exact LeO.refl _)
   | (with_reducible exact LeO.none _)
   | (with_reducible refine LeO.ite ?_ ?_)
   | (with_reducible refine LeO.bind ?_ (fun _ => ?_))
   | exact ih0 _ _
   | exact ih1 _ _
   | exact LeO.none _
   | refine LeO.ite ?_ ?_
   | refine LeO.bind ?_ (fun _ => ?_)
set_option maxHeartbeats 8000000 in
set_option maxRecDepth 100000 in
theorem rickyardref1_Class.calls (k : Nat) (a0 : Int) (r1 : Int) (r2 : Bool) (w : World) (h : rickyardref1_Class.f k a0 = some (r1, r2)) :
  Calls Try.prog 23 #[.int .i64 a0] w fun e w' => e = .returned (.tuple #[.int .i64 r1, .bool r2]) ∧ Drawn0 w w' := by
 have H : (if a0 < 1 then (rickyardref1_Class.j0 k a0 true) else (rickyardref1_Class.j0 k a0 (decide (a0 > 4096)))) = some (r1, r2) := h
 clear h
 have HC2 := aM H
 clear H
 go_enter Try.func23, Try.ntmps23
 go_upto_region 1 with (fail)
 go_cut [10] (fun v10 wc => ∃ (kq : Nat) (x10_1 : Bool), v10 = .bool x10_1 ∧ Aside0 (rickyardref1_Class.j0 kq a0 x10_1 = some (r1, r2)) ∧ Aside0 (kq ≤ k) ∧ Drawn0 w wc)
 case first =>
  have H := HC2.out
  clear HC2
  by_cases c3 : a0 < 1
  ·rw [if_pos c3] at H
   have c3b0 : decide (a0 < 1) = true := decide_eq_true c3
   clear c3
   (first | rw [c3b0] | (simp only [i64_w, i32_w]; rw [c3b0]) | skip)
   have H' := aM H
   clear H
   go_wp2
   go_meet
   case rel => exact ⟨_,(true),(by first|rfl|(simp;done)|(simp [*];done)),H',⟨by first|omega|exact Nat.le_refl _⟩,by repeat (first|exact Drawn0.refl _|apply Drawn0.step)⟩
  ·rw [if_neg c3] at H
   have c3b0 : decide (a0 < 1) = false := decide_eq_false c3
   clear c3
   (first | rw [c3b0] | (simp only [i64_w, i32_w]; rw [c3b0]) | skip)
   have H' := aM H
   clear H
   go_wp2
   go_meet
   case rel => exact ⟨_,(decide (a0 > 4096)),(by first|rfl|(simp;done)|(simp [*];done)),H',⟨by first|omega|exact Nat.le_refl _⟩,by repeat (first|exact Drawn0.refl _|apply Drawn0.step)⟩
 case rest =>
  clear HC2
  try clear c2
  try clear p2
  try clear c3
  try clear c3b0
  obtain ⟨kq, x10_1, rfl, HA, HJ1, ⟨mc1, rfl⟩⟩ := hcut
  cases kq with
  | zero => exact absurd HA.out (by simp [rickyardref1_Class.j0])
  | succ kj1 =>
   have H := HA.out
   clear HA
   simp only [rickyardref1_Class.j0] at H
   by_cases c4 : x10_1 = true
   ·subst c4
    have H1 : (some (0, false)) = some (r1, r2) := by rw [if_pos rfl] at H; exact H
    clear H
    have H := H1
    clear H1
    simp only [Option.some.injEq, Prod.mk.injEq] at H
    obtain ⟨rfl, rfl⟩ := H
    go_wp2
    go_ret2
    exact ⟨by first | rfl | (simp; done) | (simp [*]; done), by repeat (first | exact Drawn0.refl _ | apply Drawn0.step)⟩
   ·replace c4 := Bool.eq_false_iff.mpr c4
    subst c4
    have H1 : (rickyardref1_Class.l0 kj1 a0 0) = some (r1, r2) := by rw [if_neg (show ¬ (false = true) by decide)] at H; exact H
    clear H
    have H := H1
    clear H1
    have H' := aM H
    clear H
    go_wp2
    go_loopg [4] kj1 (fun kq v4 w' => ∃ (x4_2 : Int), v4 = .int .i64 x4_2 ∧ Aside0 (rickyardref1_Class.l0 kq a0 x4_2 = some (r1, r2)) ∧ Aside0 (kq ≤ kj1) ∧ Drawn0 w w')
    case atStart => exact ⟨(0),(by first|rfl|(simp;done)|(simp [*];done)),H',⟨Nat.le_refl _⟩,by repeat (first|exact Drawn0.refl _|apply Drawn0.step)⟩
    case round =>
     clear H'
     try clear c1
     try clear c2
     try clear p2
     try clear c3
     try clear c3b0
     try clear c4
     try clear p2
     obtain ⟨x4_2, rfl, HA, HK2, ⟨m2, rfl⟩⟩ := hrel
     cases gk with
     | zero => exact absurd HA.out (by simp [rickyardref1_Class.l0])
     | succ k2 =>
      have H := HA.out
      clear HA
      simp only [rickyardref1_Class.l0] at H
      replace H := Option.bind_eq_some_iff.mp H
      obtain ⟨t263, A50, H⟩ := H
      replace H : (if t263 < a0 then (rickyardref1_Class.l0 k2 a0 (wrap64 (x4_2 + 1))) else (some (x4_2, true))) = some (r1, r2) := H
      have A5 := aM A50
      clear A50
      by_cases c6 : t263 < a0
      ·rw [if_pos c6] at H
       have c6b0 : decide (t263 < a0) = true := decide_eq_true c6
       clear c6
       have H' := aM H
       clear H
       go_wp2_with (first|((with_reducible refine gate_callee (f:=17) rfl ?_);refine goesL_ (some 12) rfl rfl Try.func17 (by kernel_rfl) rfl #[.int .i64 x4_2] rfl (by (try simp only [lM,lC,lN]);first|done|rfl|(simp only [lD,lT];rfl)) ?_;(with_reducible refine (rickyardref1_Words.calls x4_2 t263 _ A5.out).mono ?_);rintro e w' ⟨rfl,⟨nd,rfl⟩⟩;refine ⟨_,rfl,?_⟩))
       go_roundg k2
       case measure => have:=HJ1.out;have:=HK2.out;omega
       case rel => exact ⟨(wrap64 (x4_2 + 1)),(by first|rfl|(simp;done)|(simp [*];done)),H',⟨by have:=HJ1.out;have:=HK2.out;omega⟩,by repeat (first|exact Drawn0.refl _|apply Drawn0.step)⟩
      ·rw [if_neg c6] at H
       have c6b0 : decide (t263 < a0) = false := decide_eq_false c6
       clear c6
       simp only [Option.some.injEq, Prod.mk.injEq] at H
       obtain ⟨rfl, rfl⟩ := H
       go_wp2_with (first|((with_reducible refine gate_callee (f:=17) rfl ?_);refine goesL_ (some 12) rfl rfl Try.func17 (by kernel_rfl) rfl #[.int .i64 x4_2] rfl (by (try simp only [lM,lC,lN]);first|done|rfl|(simp only [lD,lT];rfl)) ?_;(with_reducible refine (rickyardref1_Words.calls x4_2 t263 _ A5.out).mono ?_);rintro e w' ⟨rfl,⟨nd,rfl⟩⟩;refine ⟨_,rfl,?_⟩))
       go_ret2
       exact ⟨by first | rfl | (simp; done) | (simp [*]; done), by repeat (first | exact Drawn0.refl _ | apply Drawn0.step)⟩

/-! ### rickyardref13_put: function 80 -/
def rickyardref13_put.f (l0 : List (S48)) (a1 : Int) (a2_0 : Int) (a2_1 : Int) (a2_2 : Int) : Option ((List (S48))) := (some (([] : List (S48)) : List (S48))).bind fun y265 => (if 0 ≤ a1 then (if a1 ≤ (l0.length : Int) then ((some (l0.take (a1 : Int).toNat : List (S48))).bind fun y268 => (if y265.length + y268.length < 5864062014805 then ((some (y265 ++ y268 : List (S48))).bind fun y272 => ((some (([(⟨a2_0, a2_1, a2_2⟩ : S48)] : List (S48)) : List (S48))).bind fun y275 => (if y272.length + y275.length < 5864062014805 then ((some (y272 ++ y275 : List (S48))).bind fun y278 => ((some (l0.drop (a1 : Int).toNat : List (S48))).bind fun y281 => (if y278.length + y281.length < 5864062014805 then (some (y278 ++ y281)) else (none)))) else (none)))) else (none))) else (none)) else (none))
def rickyardref13_put.T1 : Bool × List (List Nat × List Nat) := (true, [([], []), ([], []), ([], []), ([1, 2], [1, 2]), ([0, 3], [0, 3]), ([], []), ([5], [5]), ([4, 6, 4], [4, 6]), ([], []), ([], []), ([8, 9], [8, 9]), ([7, 10, 7], [7, 10]), ([11, 11, 0, 1, 2, 3, 4, 5, 6, 7, 8, 9, 10, 11], [11])])
def rickyardref13_put.B1 : List Nat := [0, 0, 0, 6, 15, 0, 32, 127, 0, 0, 768, 2047, 4095]
theorem rickyardref13_put.tab1 : rtab .any (opsOf Try.f80 1) = rickyardref13_put.T1 := by kernel_rfl
theorem rickyardref13_put.bits1 : waitsOk rickyardref13_put.T1.2 rickyardref13_put.B1 = true := by kernel_rfl
set_option maxHeartbeats 8000000 in
set_option maxRecDepth 100000 in
theorem rickyardref13_put.calls (A0 : Option Addr) (c0 : Nat) (l0 : List (S48)) (a1 : Int) (a2_0 : Int) (a2_1 : Int) (a2_2 : Int) (r : List (S48)) (w : World) (hr0 : Kd.C k48 w A0 l0.length l0) (hc0 : l0.length ≤ c0) (h : rickyardref13_put.f l0 a1 a2_0 a2_1 a2_2 = some r) :
  Calls Try.prog 80 #[.slice A0 l0.length c0, .int .i64 a1, .agg #[.int .i64 a2_0, .int .i64 a2_1, .int .i64 a2_2]] w fun e w' => ∃ v0_ : Value, e = .returned (v0_) ∧ Kd.R k48 48 w' w.heap.size (fun _ => True) v0_ r ∧ Below w.heap.size w w' := by
 have hu48 := Try.underlying48
 have HR0 := aM hr0
 have HC0 := aM hc0
 clear hr0 hc0
 have HB := aM (Below.refl w.heap.size w)
 have H : ((some (([] : List (S48)) : List (S48))).bind fun y265 => (if 0 ≤ a1 then (if a1 ≤ (l0.length : Int) then ((some (l0.take (a1 : Int).toNat : List (S48))).bind fun y268 => (if y265.length + y268.length < 5864062014805 then ((some (y265 ++ y268 : List (S48))).bind fun y272 => ((some (([(⟨a2_0, a2_1, a2_2⟩ : S48)] : List (S48)) : List (S48))).bind fun y275 => (if y272.length + y275.length < 5864062014805 then ((some (y272 ++ y275 : List (S48))).bind fun y278 => ((some (l0.drop (a1 : Int).toNat : List (S48))).bind fun y281 => (if y278.length + y281.length < 5864062014805 then (some (y278 ++ y281)) else (none)))) else (none)))) else (none))) else (none)) else (none))) = some r := h
 clear h
 obtain ⟨y265, hy265⟩ : ∃ y_ : List (S48), y_ = (([] : List (S48))) := ⟨_, rfl⟩
 replace H : (if 0 ≤ a1 then (if a1 ≤ (l0.length : Int) then ((some (l0.take (a1 : Int).toNat : List (S48))).bind fun y268 => (if y265.length + y268.length < 5864062014805 then ((some (y265 ++ y268 : List (S48))).bind fun y272 => ((some (([(⟨a2_0, a2_1, a2_2⟩ : S48)] : List (S48)) : List (S48))).bind fun y275 => (if y272.length + y275.length < 5864062014805 then ((some (y272 ++ y275 : List (S48))).bind fun y278 => ((some (l0.drop (a1 : Int).toNat : List (S48))).bind fun y281 => (if y278.length + y281.length < 5864062014805 then (some (y278 ++ y281)) else (none)))) else (none)))) else (none))) else (none)) else (none)) = some r := by first | (rw [hy265]; with_reducible exact H) | (have H2_ := (Option.bind_some _ _).symm.trans H; rw [hy265]; with_reducible exact H2_) | (have H2_ := (Option.bind_some _ _).symm.trans H; with_reducible exact H2_) | with_reducible exact H | (rw [hy265]; exact H) | exact H
 have Ny265 := aM hy265
 clear hy265
 by_cases c4 : 0 ≤ a1
 ·rw [if_pos c4] at H
  have c4b0 := eq_true c4
  have c4b1 : decide (0 ≤ a1) = true := decide_eq_true c4
  clear c4
  by_cases c5 : a1 ≤ (l0.length : Int)
  ·rw [if_pos c5] at H
   have c5b0 := eq_true c5
   have c5b1 : decide (a1 ≤ (l0.length : Int)) = true := decide_eq_true c5
   clear c5
   obtain ⟨y268, hy268⟩ : ∃ y_ : List (S48), y_ = (l0.take (a1 : Int).toNat) := ⟨_, rfl⟩
   replace H : (if y265.length + y268.length < 5864062014805 then ((some (y265 ++ y268 : List (S48))).bind fun y272 => ((some (([(⟨a2_0, a2_1, a2_2⟩ : S48)] : List (S48)) : List (S48))).bind fun y275 => (if y272.length + y275.length < 5864062014805 then ((some (y272 ++ y275 : List (S48))).bind fun y278 => ((some (l0.drop (a1 : Int).toNat : List (S48))).bind fun y281 => (if y278.length + y281.length < 5864062014805 then (some (y278 ++ y281)) else (none)))) else (none)))) else (none)) = some r := by first | (rw [hy268]; with_reducible exact H) | (have H2_ := (Option.bind_some _ _).symm.trans H; rw [hy268]; with_reducible exact H2_) | (have H2_ := (Option.bind_some _ _).symm.trans H; with_reducible exact H2_) | with_reducible exact H | (rw [hy268]; exact H) | exact H
   have Ny268 := aM hy268
   clear hy268
   by_cases c6 : y265.length + y268.length < 5864062014805
   ·rw [if_pos c6] at H
    have LMc6 := aM c6
    clear c6
    obtain ⟨y272, hy272⟩ : ∃ y_ : List (S48), y_ = (y265 ++ y268) := ⟨_, rfl⟩
    replace H : ((some (([(⟨a2_0, a2_1, a2_2⟩ : S48)] : List (S48)) : List (S48))).bind fun y275 => (if y272.length + y275.length < 5864062014805 then ((some (y272 ++ y275 : List (S48))).bind fun y278 => ((some (l0.drop (a1 : Int).toNat : List (S48))).bind fun y281 => (if y278.length + y281.length < 5864062014805 then (some (y278 ++ y281)) else (none)))) else (none))) = some r := by first | (rw [hy272]; with_reducible exact H) | (have H2_ := (Option.bind_some _ _).symm.trans H; rw [hy272]; with_reducible exact H2_) | (have H2_ := (Option.bind_some _ _).symm.trans H; with_reducible exact H2_) | with_reducible exact H | (rw [hy272]; exact H) | exact H
    have Ny272 := aM hy272
    clear hy272
    obtain ⟨y275, hy275⟩ : ∃ y_ : List (S48), y_ = (([(⟨a2_0, a2_1, a2_2⟩ : S48)] : List (S48))) := ⟨_, rfl⟩
    replace H : (if y272.length + y275.length < 5864062014805 then ((some (y272 ++ y275 : List (S48))).bind fun y278 => ((some (l0.drop (a1 : Int).toNat : List (S48))).bind fun y281 => (if y278.length + y281.length < 5864062014805 then (some (y278 ++ y281)) else (none)))) else (none)) = some r := by first | (rw [hy275]; with_reducible exact H) | (have H2_ := (Option.bind_some _ _).symm.trans H; rw [hy275]; with_reducible exact H2_) | (have H2_ := (Option.bind_some _ _).symm.trans H; with_reducible exact H2_) | with_reducible exact H | (rw [hy275]; exact H) | exact H
    have Ny275 := aM hy275
    clear hy275
    by_cases c7 : y272.length + y275.length < 5864062014805
    ·rw [if_pos c7] at H
     have LMc7 := aM c7
     clear c7
     obtain ⟨y278, hy278⟩ : ∃ y_ : List (S48), y_ = (y272 ++ y275) := ⟨_, rfl⟩
     replace H : ((some (l0.drop (a1 : Int).toNat : List (S48))).bind fun y281 => (if y278.length + y281.length < 5864062014805 then (some (y278 ++ y281)) else (none))) = some r := by first | (rw [hy278]; with_reducible exact H) | (have H2_ := (Option.bind_some _ _).symm.trans H; rw [hy278]; with_reducible exact H2_) | (have H2_ := (Option.bind_some _ _).symm.trans H; with_reducible exact H2_) | with_reducible exact H | (rw [hy278]; exact H) | exact H
     have Ny278 := aM hy278
     clear hy278
     have c8b0 := eq_true (oD (by first | (with_reducible assumption) | assumption) : 0 ≤ a1)
     have c9b0 := eq_true (oD (by first | (with_reducible assumption) | assumption) : a1 ≤ (l0.length : Int))
     obtain ⟨y281, hy281⟩ : ∃ y_ : List (S48), y_ = (l0.drop (a1 : Int).toNat) := ⟨_, rfl⟩
     replace H : (if y278.length + y281.length < 5864062014805 then (some (y278 ++ y281)) else (none)) = some r := by first | (rw [hy281]; with_reducible exact H) | (have H2_ := (Option.bind_some _ _).symm.trans H; rw [hy281]; with_reducible exact H2_) | (have H2_ := (Option.bind_some _ _).symm.trans H; with_reducible exact H2_) | with_reducible exact H | (rw [hy281]; exact H) | exact H
     have Ny281 := aM hy281
     clear hy281
     by_cases c10 : y278.length + y281.length < 5864062014805
     ·rw [if_pos c10] at H
      have LMc10 := aM c10
      clear c10
      obtain ⟨y285, hy285⟩ : ∃ y_ : List (S48), y_ = (y278 ++ y281) := ⟨_, rfl⟩
      replace H : (some y285) = some r := by first | (rw [hy285]; with_reducible exact H) | (have H2_ := (Option.bind_some _ _).symm.trans H; rw [hy285]; with_reducible exact H2_) | (have H2_ := (Option.bind_some _ _).symm.trans H; with_reducible exact H2_) | with_reducible exact H | (rw [hy285]; exact H) | exact H
      have Ny285 := aM hy285
      clear hy285
      obtain rfl := Option.some.inj H
      go_enter Try.func80, Try.ntmps80
      try go_wp2_with (first|((with_reducible refine gate_dst (N:=5) rfl ?_);refine box_event ?hg (N:=5) ?hd (cs:=#[.int .i64 a2_0,.int .i64 a2_1,.int .i64 a2_2]) (t:=48) ?hr ?_;(case hd => rfl);(case hg => rfl);(case hr => first|(go_simp;done)|(go_simp;rfl));intro gb264 hg w11 hbox hb;have n0_:=aM (wT (by repeat (first|(with_reducible first|exact HB.out|apply wA|apply wN_|apply wD)|exact HB.out)) hb);have n1_:=aM (hbox);have n2_:=aM ((by rw [hg];exact (wZ (by repeat (first|(with_reducible first|exact HB.out|apply wA|apply wN_|apply wD)|exact HB.out))) : w.heap.size ≤ gb264));have n3_:=aM ((by rw [hg];exact (wZ (by repeat (first|(with_reducible first|exact HB.out|apply wA|apply wN_|apply wD)|exact HB.out))) : w.heap.size ≤ gb264));clear HB;have HB:=n0_;have BK264:=n1_;have GW264:=n2_;have GE264:=n3_;clear n0_ n1_ n2_ n3_;clear hb hbox hg))
      have n0_ := aM (bD BK264.out)
      have n1_ := aM (wD HB.out)
      clear BK264
      clear HB
      have BK264 := n0_
      have HB := n1_
      clear n0_ n1_
      have q13 : (a1 : Int) ≤ ((l0.length : Int) : Int) := oD (by first | (with_reducible assumption) | assumption)
      obtain ⟨i013, hi013, _, hsz13, _⟩ := info_parts info48
      have hroom13 : l0.length ≤ c0 := HC0.out
      have hC13 : Kd.C k48 _ A0 l0.length l0 := HR0.out
      have hcut13 := cut_to (P := Try.prog) 39 48 .i64 Try.underlying39 hi013 A0 l0.length c0 a1 (oD (by first | (with_reducible assumption) | assumption)) q13 hroom13
      have hr13 := Kd.C_take (m := (a1 : Int).toNat) hC13 (by omega)
      have hy13 : y268.length = (a1 : Int).toNat := (by rw [Ny268.out, lT]; omega)
      rw [← Ny268.out] at hr13
      rw [← hy13] at hcut13
      have HR271 := aM hr13
      have HC271 := aM (show y268.length ≤ c0 from by omega)
      clear hr13 hC13 hroom13 hi013 hsz13
      have KY13 := aM hy13
      clear hy13
      replace q13 := eq_true q13
      have q14 : (a1 : Int) ≤ ((l0.length : Int) : Int) := oD (by first | (with_reducible assumption) | assumption)
      obtain ⟨i014, hi014, _, hsz14, _⟩ := info_parts info48
      have hroom14 : l0.length ≤ c0 := HC0.out
      have hC14 : Kd.C k48 _ A0 l0.length l0 := HR0.out
      have q014 : (0 : Int) ≤ (a1 : Int) := oD (by first | (with_reducible assumption) | assumption)
      have hcut14 := cut_from (P := Try.prog) 39 48 .i64 Try.underlying39 hi014 3 hsz14 A0 l0.length c0 a1 q014 q14
      have hr14 := Kd.C_drop (m := (a1 : Int).toNat) (c := c0) hC14 (by omega) hroom14
      obtain ⟨A14, hA14⟩ : ∃ A1, A1 = (if c0 = (a1 : Int).toNat then A0 else (A0 : Option Addr).map (·.add ((a1 : Int).toNat * 3))) := ⟨_, rfl⟩
      obtain ⟨c14, hc14⟩ : ∃ c1, c1 = c0 - (a1 : Int).toNat := ⟨_, rfl⟩
      have hy14 : y281.length = l0.length - (a1 : Int).toNat := (by rw [Ny281.out, lD] <;> omega)
      rw [show (l0).drop (a1 : Int).toNat = y281 from Ny281.out.symm] at hr14
      replace hr14 : Kd.C k48 _ A14 y281.length y281 := (by rw [hA14]; exact hr14)
      rw [← hy14, ← hA14, ← hc14] at hcut14
      have HR284 := aM hr14
      have HC284 := aM (show y281.length ≤ c14 from by rw [hy14, hc14]; exact Nat.sub_le_sub_right hroom14 _)
      clear hr14 hC14 hroom14 hi014 hsz14 hc14
      have KY14 := aM hy14
      have KA14 := aM hA14
      clear hy14 hA14
      replace q14 := eq_true q14
      refine start_ (n := 13) (S := fun w' => w'.cell? ⟨gb264, 0, none⟩ = some (.int .i64 a2_0) ∧ w'.cell? ⟨gb264, 1, none⟩ = some (.int .i64 a2_1) ∧ w'.cell? ⟨gb264, 2, none⟩ = some (.int .i64 a2_2)) (ds := []) #[false, false, false, false, false, false, false, false, false, false, false, false, false] (by kernel_rfl) rfl rfl ⟨(bC BK264.out 0).trans rfl, (bC BK264.out 1).trans rfl, (bC BK264.out 2).trans rfl⟩ (fun hHeld => ?_); refine with_tabW rickyardref13_put.tab1 rickyardref13_put.bits1 (fun HT_ HW_ => ?_)
      generalize w11.drew = w12 at BK264 HB HR271 HR284 hHeld ⊢
      refine pure_ (i := 1) (N := some 8) (v := ?_) (a' := ?_) #[false, true, false, false, false, false, false, false, false, false, false, false, false] rfl rfl (any_of HT_.out (by kernel_rfl)) (fun _ _ _ h => h) (Or.inl ⟨by rfl, ?_⟩) ?_ ?_
      rotate_left
      ·intro w'
       go_simp
       with_reducible rfl
      rotate_left
      ·simp only [Act.put, lS, lZ, lU, i64_w, i32_w]
       rfl
      refine pure_ (i := 2) (N := some 9) (v := ?_) (a' := ?_) #[false, true, true, false, false, false, false, false, false, false, false, false, false] rfl rfl (any_of HT_.out (by kernel_rfl)) (fun _ _ _ h => h) (Or.inl ⟨by rfl, ?_⟩) ?_ ?_
      rotate_left
      ·intro w'
       go_simp
       with_reducible rfl
      rotate_left
      ·simp only [Act.put, lS, lZ, lU, i64_w, i32_w]
       rfl
      refine pure_ (i := 3) (N := some 10) (v := ?_) (a' := ?_) #[false, true, true, true, false, false, false, false, false, false, false, false, false] rfl rfl (any_of HT_.out (by kernel_rfl)) (fun _ _ _ h => h) (Or.inl ⟨by rfl, ?_⟩) ?_ ?_
      rotate_left
      ·intro w'
       go_simp
       with_reducible rfl
      rotate_left
      ·simp only [Act.put, lS, lZ, lU, i64_w, i32_w]
       rfl
      refine pure_ (i := 8) (N := some 15) (v := ?_) (a' := ?_) #[false, true, true, true, false, false, false, false, true, false, false, false, false] rfl rfl (any_of HT_.out (by kernel_rfl)) (fun _ _ _ h => h) (Or.inl ⟨by rfl, ?_⟩) ?_ ?_
      rotate_left
      ·intro w'
       go_simp
       with_reducible rfl
      rotate_left
      ·simp only [Act.put, lS, lZ, lU, i64_w, i32_w]
       rfl
      refine pure_ (i := 9) (N := some 16) (v := ?_) (a' := ?_) #[false, true, true, true, false, false, false, false, true, true, false, false, false] rfl rfl (any_of HT_.out (by kernel_rfl)) (fun _ _ _ h => h) (Or.inl ⟨by rfl, ?_⟩) ?_ ?_
      rotate_left
      ·intro w'
       go_simp
       with_reducible rfl
      rotate_left
      ·simp only [Act.put, lS, lZ, lU, i64_w, i32_w]
       rfl
      refine pure_ (i := 10) (N := some 17) (v := ?_) (a' := ?_) #[false, true, true, true, false, false, false, false, true, true, true, false, false] rfl rfl (any_of HT_.out (by kernel_rfl)) (fun _ _ _ h => h) (Or.inl ⟨by rfl, ?_⟩) ?_ ?_
      rotate_left
      ·intro w'
       go_simp
       with_reducible rfl
      rotate_left
      ·simp only [Act.put, lS, lZ, lU, i64_w, i32_w]
       rfl
      refine take_ (i := 5) (N := some 12) (v := ?_) (a' := ?_) #[false, true, true, true, false, true, false, false, true, true, true, false, false] rfl rfl (take_ofW HT_.out HW_.out (by kernel_rfl)) (fun _ _ _ h => h) (Or.inl ⟨by rfl, ?_⟩) hHeld ?_ ?_
      rotate_left
      ·rintro w' ⟨s0, s1, s2⟩
       go_simp
       with_reducible rfl
      rotate_left
      ·simp only [Act.put, lS, lZ, lU, i64_w, i32_w]
       rfl
      refine join_ (σ := Value × Value × Value) 3 #[true, true, true, true, true, true, true, false, true, true, true, false, false] (fun s_ => [(7, s_.1), (11, s_.2.1), (13, s_.2.2)]) (fun s_ w' => (w'.cell? ⟨gb264, 0, none⟩ = some (.int .i64 a2_0) ∧ w'.cell? ⟨gb264, 1, none⟩ = some (.int .i64 a2_1) ∧ w'.cell? ⟨gb264, 2, none⟩ = some (.int .i64 a2_2)) ∧ (Kd.R k48 48 w' w.heap.size (fun k_ => some k_ ≠ (s_.2.2 : Value).ownBlock ∧ k_ ≠ gb264) s_.2.1 y272) ∧ (Kd.R k48 48 w' w.heap.size (fun k_ => some k_ ≠ (s_.2.1 : Value).ownBlock ∧ k_ ≠ gb264) s_.2.2 y275) ∧ (w'.heap[gb264]? = some (.cells #[.int .i64 a2_0, .int .i64 a2_1, .int .i64 a2_2] 48 (0, 0))) ∧ (Below w.heap.size w w')) ?_ ?_
      rotate_left
      ·intro hCont
       refine two_ (i := 0) (j := 6) (Ni := some 7) (Nj := some 13) #[true, true, true, true, false, true, false, false, true, true, true, false, false] #[false, true, true, true, false, true, true, false, true, true, true, false, false] rfl rfl rfl rfl (two_of HT_.out (by kernel_rfl)) (by decide) (by decide) (fun K hK => ?_) (fun K hK => ?_)
       ·skip
        refine Kd.R_lit_step k48 _ 48 ?hg (N:=7) ?hd (xs:=([] : List (S48))) (inner:=[]) (ok:=fun _ => True) (okp:=fun _ => True) ?hr ?hp (fun _ hk => hk) trivial (Below.refl _ _) (Nat.le_refl _) (by simp) ?_;(case hd => rfl);(case hg => rfl);(case hr => first|(go_simp;done)|(go_simp;rfl));(case hp => exact (Reps.none _ _))
        intro v266 w15 ho16 hb hg_ hnew_
        clear hg_ hnew_
        (first | rw [← Ny265.out] at ho16 | (simp only [Int.reduceToNat] at ho16; rw [← Ny265.out] at ho16))
        have n0_ := aM (Kd.R_lower (Kd.R_newB ho16 (g := gb264) (o := .cells #[.int .i64 a2_0, .int .i64 a2_1, .int .i64 a2_2] 48 (0, 0)) (by (with_reducible repeat (first | refine bN ?_ _ | refine bD ?_ | refine bA ?_ _)); exact BK264.out)) (wZ (by repeat (first | (with_reducible first | exact HB.out | apply wA | apply wN_ | apply wD | refine wS ?_ GE264.out) | exact HB.out))))
        have n1_ := aM (bB (g := gb264) (o := .cells #[.int .i64 a2_0, .int .i64 a2_1, .int .i64 a2_2] 48 (0, 0)) (by (with_reducible repeat (first | refine bN ?_ _ | refine bD ?_ | refine bA ?_ _)); exact BK264.out) hb)
        have n2_ := aM (wT (by repeat (first | (with_reducible first | exact HB.out | apply wA | apply wN_ | apply wD | refine wS ?_ GE264.out) | exact HB.out)) hb)
        clear BK264
        clear HB
        have HO267 := n0_
        have BK264 := n1_
        have HB := n2_
        clear n0_ n1_ n2_
        clear hb ho16
        refine hK.out _ _ ⟨(bC BK264.out 0).trans rfl, (bC BK264.out 1).trans rfl, (bC BK264.out 2).trans rfl⟩ (fun hHeld => ?_)
        clear hK K
        refine norm_ (a' := ?_) ?_ ?_
        rotate_left
        ·show Act.put _ (some 7) _ = _
         simp only [Act.put, lS, lZ, lU, i64_w, i32_w]
         rfl
        refine two_ (i := 4) (j := 6) (Ni := some 11) (Nj := some 13) #[true, true, true, true, true, true, false, false, true, true, true, false, false] #[true, true, true, true, false, true, true, false, true, true, true, false, false] rfl rfl rfl rfl (two_of HT_.out (by kernel_rfl)) (by decide) (by decide) (fun K hK => ?_) (fun K hK => ?_)
        ·skip
         refine Kd.R_append_rows_step k48 (w0 := w) w.heap.size (by rfl) (.tmp 7) (.tmp 10) 39 48 (.agg #[(.int .i64 0), (.int .i64 0), (.int .i64 0)]) 24 rfl Try.underlying39 info48 rfl (by decide) (by omega) v266 y265 y268 _ _ _ (fun k_ => k_ ≠ gb264) (fun _ => False) rfl rfl ?aO ?aR (fun _ _ h => h) (fun _ h => h.elim) ?aF ?aB ?aS ?aL ?_
         (case aR => repeat (first|exact (cB HR271.out HB.out)|(with_reducible refine cA ?_ _)|(with_reducible refine cN ?_ _)|(with_reducible refine cD ?_)))
         (case aB => exact (by repeat (first|(with_reducible first|exact HB.out|apply wA|apply wN_|apply wD|refine wS ?_ GE264.out)|exact HB.out)))
         (case aF => exact (fun k_ hk => Kd.freshB (g:=gb264) (o:=.cells #[.int .i64 a2_0,.int .i64 a2_1,.int .i64 a2_2] 48 (0,0)) (by (with_reducible repeat (first|refine bN ?_ _|refine bD ?_|refine bA ?_ _));exact BK264.out) k_ hk))
         (case aO => exact (by (with_reducible repeat (first|apply rA|apply rN|apply rD));exact rM HO267.out (fun _ hk => hk.2)))
         (case aS => exact (wZ (by repeat (first|(with_reducible first|exact HB.out|apply wA|apply wN_|apply wD|refine wS ?_ GE264.out)|exact HB.out))))
         (case aL => have:=LMc6.out;omega)
         intro v273 w17 ho hb hg hat
         rw [← Ny272.out] at ho
         have n0_ := aM (blk_grown (g := gb264) (o := .cells #[.int .i64 a2_0, .int .i64 a2_1, .int .i64 a2_2] 48 (0, 0)) (by (with_reducible repeat (first | refine bN ?_ _ | refine bD ?_ | refine bA ?_ _)); exact BK264.out) hg (Kd.R_away HO267.out (fun _ hk => hk.2)))
         have n1_ := aM (hb)
         have n2_ := aM (ho)
         clear BK264
         clear HB
         clear HO267
         have BK264 := n0_
         have HB := n1_
         have HO274 := n2_
         clear n0_ n1_ n2_
         clear ho hb hg hat
         refine hK.out _ _ ⟨(bC BK264.out 0).trans rfl, (bC BK264.out 1).trans rfl, (bC BK264.out 2).trans rfl⟩ (fun hHeld => ?_)
         clear hK K
         refine norm_ (a' := ?_) ?_ ?_
         rotate_left
         ·show Act.put _ (some 11) _ = _
          simp only [Act.put, lS, lZ, lU, i64_w, i32_w]
          rfl
         refine one_ (i := 6) (N := some 13) #[true, true, true, true, true, true, true, false, true, true, true, false, false] rfl rfl (one_of HT_.out (by kernel_rfl)) (by decide) (fun K hK => ?_)
         refine Kd.R_lit_step k48 _ 48 ?hg (N:=13) ?hd (xs:=([(⟨a2_0,a2_1,a2_2⟩ : S48)] : List (S48))) (inner:=[.int .i64 a2_0,.int .i64 a2_1,.int .i64 a2_2]) (ok:=fun _ => True) (okp:=fun _ => True) ?hr ?hp (fun _ hk => hk) trivial (Below.refl _ _) (Nat.le_refl _) (by simp) ?_;(case hd => rfl);(case hg => rfl);(case hr => first|(go_simp;done)|(go_simp;rfl));(case hp => exact (Reps.c3 (show Kd.M k48 _ _ _ (⟨a2_0,a2_1,a2_2⟩ : S48) [.int .i64 a2_0,.int .i64 a2_1,.int .i64 a2_2] from (k48_mkM _ _ _ (⟨a2_0,a2_1,a2_2⟩ : S48) )) (Reps.none _ _)))
         intro v276 w18 ho19 hb hg_ hnew_
         clear hg_ hnew_
         (first | rw [← Ny275.out] at ho19 | (simp only [Int.reduceToNat] at ho19; rw [← Ny275.out] at ho19))
         have n0_ := aM (Kd.R_elder' (by (with_reducible repeat (first | apply rA | apply rN | apply rD)); exact HO274.out) (Kd.R_base ho19) hb)
         have n1_ := aM (Kd.R_lower (Kd.R_newB (Kd.R_new' ho19 (Kd.R_lt (by (with_reducible repeat (first | apply rA | apply rN | apply rD)); exact HO274.out))) (g := gb264) (o := .cells #[.int .i64 a2_0, .int .i64 a2_1, .int .i64 a2_2] 48 (0, 0)) (by (with_reducible repeat (first | refine bN ?_ _ | refine bD ?_ | refine bA ?_ _)); exact BK264.out)) (wZ (by repeat (first | (with_reducible first | exact HB.out | apply wA | apply wN_ | apply wD | refine wS ?_ GE264.out) | exact HB.out))))
         have n2_ := aM (bB (g := gb264) (o := .cells #[.int .i64 a2_0, .int .i64 a2_1, .int .i64 a2_2] 48 (0, 0)) (by (with_reducible repeat (first | refine bN ?_ _ | refine bD ?_ | refine bA ?_ _)); exact BK264.out) hb)
         have n3_ := aM (wT (by repeat (first | (with_reducible first | exact HB.out | apply wA | apply wN_ | apply wD | refine wS ?_ GE264.out) | exact HB.out)) hb)
         clear HO274
         clear BK264
         clear HB
         have HO274 := n0_
         have HO277 := n1_
         have BK264 := n2_
         have HB := n3_
         clear n0_ n1_ n2_ n3_
         clear hb ho19
         refine hK.out _ _ ⟨(bC BK264.out 0).trans rfl, (bC BK264.out 1).trans rfl, (bC BK264.out 2).trans rfl⟩ (fun hHeld => ?_)
         clear hK K
         refine norm_ (a' := ?_) ?_ ?_
         rotate_left
         ·show Act.put _ (some 13) _ = _
          simp only [Act.put, lS, lZ, lU, i64_w, i32_w]
          rfl
         exact norm_ (by simp only [putAll, Act.put, lS, lZ, lU]) (hCont (v266, v273, v276) _ ⟨hHeld, (by (with_reducible repeat (first | apply rA | apply rN | apply rD)); exact rM HO274.out (fun _ hk => ⟨hk.2, hk.1⟩)), (by (with_reducible repeat (first | apply rA | apply rN | apply rD)); exact rM HO277.out (fun _ hk => ⟨hk.1.2, hk.2⟩)), (by (with_reducible repeat (first | refine bN ?_ _ | refine bD ?_ | refine bA ?_ _)); exact BK264.out), (by repeat (first | (with_reducible first | exact HB.out | apply wA | apply wN_ | apply wD | refine wS ?_ GE264.out) | exact HB.out))⟩)
        ·skip
         refine Kd.R_lit_step k48 _ 48 ?hg (N:=13) ?hd (xs:=([(⟨a2_0,a2_1,a2_2⟩ : S48)] : List (S48))) (inner:=[.int .i64 a2_0,.int .i64 a2_1,.int .i64 a2_2]) (ok:=fun _ => True) (okp:=fun _ => True) ?hr ?hp (fun _ hk => hk) trivial (Below.refl _ _) (Nat.le_refl _) (by simp) ?_;(case hd => rfl);(case hg => rfl);(case hr => first|(go_simp;done)|(go_simp;rfl));(case hp => exact (Reps.c3 (show Kd.M k48 _ _ _ (⟨a2_0,a2_1,a2_2⟩ : S48) [.int .i64 a2_0,.int .i64 a2_1,.int .i64 a2_2] from (k48_mkM _ _ _ (⟨a2_0,a2_1,a2_2⟩ : S48) )) (Reps.none _ _)))
         intro v276 w17 ho18 hb hg_ hnew_
         clear hg_ hnew_
         (first | rw [← Ny275.out] at ho18 | (simp only [Int.reduceToNat] at ho18; rw [← Ny275.out] at ho18))
         have n0_ := aM (Kd.R_elder' (by (with_reducible repeat (first | apply rA | apply rN | apply rD)); exact HO267.out) (Kd.R_base ho18) hb)
         have n1_ := aM (Kd.R_lower (Kd.R_newB (Kd.R_new' ho18 (Kd.R_lt (by (with_reducible repeat (first | apply rA | apply rN | apply rD)); exact HO267.out))) (g := gb264) (o := .cells #[.int .i64 a2_0, .int .i64 a2_1, .int .i64 a2_2] 48 (0, 0)) (by (with_reducible repeat (first | refine bN ?_ _ | refine bD ?_ | refine bA ?_ _)); exact BK264.out)) (wZ (by repeat (first | (with_reducible first | exact HB.out | apply wA | apply wN_ | apply wD | refine wS ?_ GE264.out) | exact HB.out))))
         have n2_ := aM (bB (g := gb264) (o := .cells #[.int .i64 a2_0, .int .i64 a2_1, .int .i64 a2_2] 48 (0, 0)) (by (with_reducible repeat (first | refine bN ?_ _ | refine bD ?_ | refine bA ?_ _)); exact BK264.out) hb)
         have n3_ := aM (wT (by repeat (first | (with_reducible first | exact HB.out | apply wA | apply wN_ | apply wD | refine wS ?_ GE264.out) | exact HB.out)) hb)
         clear HO267
         clear BK264
         clear HB
         have HO267 := n0_
         have HO277 := n1_
         have BK264 := n2_
         have HB := n3_
         clear n0_ n1_ n2_ n3_
         clear hb ho18
         refine hK.out _ _ ⟨(bC BK264.out 0).trans rfl, (bC BK264.out 1).trans rfl, (bC BK264.out 2).trans rfl⟩ (fun hHeld => ?_)
         clear hK K
         refine norm_ (a' := ?_) ?_ ?_
         rotate_left
         ·show Act.put _ (some 13) _ = _
          simp only [Act.put, lS, lZ, lU, i64_w, i32_w]
          rfl
         refine one_ (i := 4) (N := some 11) #[true, true, true, true, true, true, true, false, true, true, true, false, false] rfl rfl (one_of HT_.out (by kernel_rfl)) (by decide) (fun K hK => ?_)
         refine Kd.R_append_rows_step k48 (w0 := w) w.heap.size (by rfl) (.tmp 7) (.tmp 10) 39 48 (.agg #[(.int .i64 0), (.int .i64 0), (.int .i64 0)]) 24 rfl Try.underlying39 info48 rfl (by decide) (by omega) v266 y265 y268 _ _ _ (fun k_ => some k_ ≠ (v276 : Value).ownBlock ∧ k_ ≠ gb264) (fun _ => False) rfl rfl ?aO ?aR (fun _ _ h => h) (fun _ h => h.elim) ?aF ?aB ?aS ?aL ?_
         (case aR => repeat (first|exact (cB HR271.out HB.out)|(with_reducible refine cA ?_ _)|(with_reducible refine cN ?_ _)|(with_reducible refine cD ?_)))
         (case aB => exact (by repeat (first|(with_reducible first|exact HB.out|apply wA|apply wN_|apply wD|refine wS ?_ GE264.out)|exact HB.out)))
         (case aF => exact (fun k_ hk => ⟨Kd.fresh' (Kd.R_lt (by (with_reducible repeat (first|apply rA|apply rN|apply rD));exact HO277.out)) k_ hk,Kd.freshB (g:=gb264) (o:=.cells #[.int .i64 a2_0,.int .i64 a2_1,.int .i64 a2_2] 48 (0,0)) (by (with_reducible repeat (first|refine bN ?_ _|refine bD ?_|refine bA ?_ _));exact BK264.out) k_ hk⟩))
         (case aO => exact (by (with_reducible repeat (first|apply rA|apply rN|apply rD));exact rM HO267.out (fun _ hk => ⟨hk.2,hk.1.2⟩)))
         (case aS => exact (wZ (by repeat (first|(with_reducible first|exact HB.out|apply wA|apply wN_|apply wD|refine wS ?_ GE264.out)|exact HB.out))))
         (case aL => have:=LMc6.out;omega)
         intro v273 w19 ho hb hg hat
         rw [← Ny272.out] at ho
         have n0_ := aM (blk_grown (g := gb264) (o := .cells #[.int .i64 a2_0, .int .i64 a2_1, .int .i64 a2_2] 48 (0, 0)) (by (with_reducible repeat (first | refine bN ?_ _ | refine bD ?_ | refine bA ?_ _)); exact BK264.out) hg (Kd.R_away HO267.out (fun _ hk => hk.1.2)))
         have n1_ := aM (Kd.R_after (ok := (fun k_ => k_ ≠ gb264)) (by (with_reducible repeat (first | apply rA | apply rN | apply rD)); exact rM HO277.out (fun _ hk => ⟨hk.2, hk.1.2⟩)) hg hat)
         have n2_ := aM (hb)
         have n3_ := aM (ho)
         clear BK264
         clear HO277
         clear HB
         clear HO267
         have BK264 := n0_
         have HO277 := n1_
         have HB := n2_
         have HO274 := n3_
         clear n0_ n1_ n2_ n3_
         clear ho hb hg hat
         refine hK.out _ _ ⟨(bC BK264.out 0).trans rfl, (bC BK264.out 1).trans rfl, (bC BK264.out 2).trans rfl⟩ (fun hHeld => ?_)
         clear hK K
         refine norm_ (a' := ?_) ?_ ?_
         rotate_left
         ·show Act.put _ (some 11) _ = _
          simp only [Act.put, lS, lZ, lU, i64_w, i32_w]
          rfl
         exact norm_ (by simp only [putAll, Act.put, lS, lZ, lU]) (hCont (v266, v273, v276) _ ⟨hHeld, (by (with_reducible repeat (first | apply rA | apply rN | apply rD)); exact HO274.out), (by (with_reducible repeat (first | apply rA | apply rN | apply rD)); exact rM HO277.out (fun _ hk => ⟨hk.2, hk.1⟩)), (by (with_reducible repeat (first | refine bN ?_ _ | refine bD ?_ | refine bA ?_ _)); exact BK264.out), (by repeat (first | (with_reducible first | exact HB.out | apply wA | apply wN_ | apply wD | refine wS ?_ GE264.out) | exact HB.out))⟩)
       ·skip
        refine Kd.R_lit_step k48 _ 48 ?hg (N:=13) ?hd (xs:=([(⟨a2_0,a2_1,a2_2⟩ : S48)] : List (S48))) (inner:=[.int .i64 a2_0,.int .i64 a2_1,.int .i64 a2_2]) (ok:=fun _ => True) (okp:=fun _ => True) ?hr ?hp (fun _ hk => hk) trivial (Below.refl _ _) (Nat.le_refl _) (by simp) ?_;(case hd => rfl);(case hg => rfl);(case hr => first|(go_simp;done)|(go_simp;rfl));(case hp => exact (Reps.c3 (show Kd.M k48 _ _ _ (⟨a2_0,a2_1,a2_2⟩ : S48) [.int .i64 a2_0,.int .i64 a2_1,.int .i64 a2_2] from (k48_mkM _ _ _ (⟨a2_0,a2_1,a2_2⟩ : S48) )) (Reps.none _ _)))
        intro v276 w15 ho16 hb hg_ hnew_
        clear hg_ hnew_
        (first | rw [← Ny275.out] at ho16 | (simp only [Int.reduceToNat] at ho16; rw [← Ny275.out] at ho16))
        have n0_ := aM (Kd.R_lower (Kd.R_newB ho16 (g := gb264) (o := .cells #[.int .i64 a2_0, .int .i64 a2_1, .int .i64 a2_2] 48 (0, 0)) (by (with_reducible repeat (first | refine bN ?_ _ | refine bD ?_ | refine bA ?_ _)); exact BK264.out)) (wZ (by repeat (first | (with_reducible first | exact HB.out | apply wA | apply wN_ | apply wD | refine wS ?_ GE264.out) | exact HB.out))))
        have n1_ := aM (bB (g := gb264) (o := .cells #[.int .i64 a2_0, .int .i64 a2_1, .int .i64 a2_2] 48 (0, 0)) (by (with_reducible repeat (first | refine bN ?_ _ | refine bD ?_ | refine bA ?_ _)); exact BK264.out) hb)
        have n2_ := aM (wT (by repeat (first | (with_reducible first | exact HB.out | apply wA | apply wN_ | apply wD | refine wS ?_ GE264.out) | exact HB.out)) hb)
        clear BK264
        clear HB
        have HO277 := n0_
        have BK264 := n1_
        have HB := n2_
        clear n0_ n1_ n2_
        clear hb ho16
        refine hK.out _ _ ⟨(bC BK264.out 0).trans rfl, (bC BK264.out 1).trans rfl, (bC BK264.out 2).trans rfl⟩ (fun hHeld => ?_)
        clear hK K
        refine norm_ (a' := ?_) ?_ ?_
        rotate_left
        ·show Act.put _ (some 13) _ = _
         simp only [Act.put, lS, lZ, lU, i64_w, i32_w]
         rfl
        refine one_ (i := 0) (N := some 7) #[true, true, true, true, false, true, true, false, true, true, true, false, false] rfl rfl (one_of HT_.out (by kernel_rfl)) (by decide) (fun K hK => ?_)
        refine Kd.R_lit_step k48 _ 48 ?hg (N:=7) ?hd (xs:=([] : List (S48))) (inner:=[]) (ok:=fun _ => True) (okp:=fun _ => True) ?hr ?hp (fun _ hk => hk) trivial (Below.refl _ _) (Nat.le_refl _) (by simp) ?_;(case hd => rfl);(case hg => rfl);(case hr => first|(go_simp;done)|(go_simp;rfl));(case hp => exact (Reps.none _ _))
        intro v266 w17 ho18 hb hg_ hnew_
        clear hg_ hnew_
        (first | rw [← Ny265.out] at ho18 | (simp only [Int.reduceToNat] at ho18; rw [← Ny265.out] at ho18))
        have n0_ := aM (Kd.R_elder' (by (with_reducible repeat (first | apply rA | apply rN | apply rD)); exact HO277.out) (Kd.R_base ho18) hb)
        have n1_ := aM (Kd.R_lower (Kd.R_newB (Kd.R_new' ho18 (Kd.R_lt (by (with_reducible repeat (first | apply rA | apply rN | apply rD)); exact HO277.out))) (g := gb264) (o := .cells #[.int .i64 a2_0, .int .i64 a2_1, .int .i64 a2_2] 48 (0, 0)) (by (with_reducible repeat (first | refine bN ?_ _ | refine bD ?_ | refine bA ?_ _)); exact BK264.out)) (wZ (by repeat (first | (with_reducible first | exact HB.out | apply wA | apply wN_ | apply wD | refine wS ?_ GE264.out) | exact HB.out))))
        have n2_ := aM (bB (g := gb264) (o := .cells #[.int .i64 a2_0, .int .i64 a2_1, .int .i64 a2_2] 48 (0, 0)) (by (with_reducible repeat (first | refine bN ?_ _ | refine bD ?_ | refine bA ?_ _)); exact BK264.out) hb)
        have n3_ := aM (wT (by repeat (first | (with_reducible first | exact HB.out | apply wA | apply wN_ | apply wD | refine wS ?_ GE264.out) | exact HB.out)) hb)
        clear HO277
        clear BK264
        clear HB
        have HO277 := n0_
        have HO267 := n1_
        have BK264 := n2_
        have HB := n3_
        clear n0_ n1_ n2_ n3_
        clear hb ho18
        refine hK.out _ _ ⟨(bC BK264.out 0).trans rfl, (bC BK264.out 1).trans rfl, (bC BK264.out 2).trans rfl⟩ (fun hHeld => ?_)
        clear hK K
        refine norm_ (a' := ?_) ?_ ?_
        rotate_left
        ·show Act.put _ (some 7) _ = _
         simp only [Act.put, lS, lZ, lU, i64_w, i32_w]
         rfl
        refine one_ (i := 4) (N := some 11) #[true, true, true, true, true, true, true, false, true, true, true, false, false] rfl rfl (one_of HT_.out (by kernel_rfl)) (by decide) (fun K hK => ?_)
        refine Kd.R_append_rows_step k48 (w0 := w) w.heap.size (by rfl) (.tmp 7) (.tmp 10) 39 48 (.agg #[(.int .i64 0), (.int .i64 0), (.int .i64 0)]) 24 rfl Try.underlying39 info48 rfl (by decide) (by omega) v266 y265 y268 _ _ _ (fun k_ => some k_ ≠ (v276 : Value).ownBlock ∧ k_ ≠ gb264) (fun _ => False) rfl rfl ?aO ?aR (fun _ _ h => h) (fun _ h => h.elim) ?aF ?aB ?aS ?aL ?_
        (case aR => repeat (first|exact (cB HR271.out HB.out)|(with_reducible refine cA ?_ _)|(with_reducible refine cN ?_ _)|(with_reducible refine cD ?_)))
        (case aB => exact (by repeat (first|(with_reducible first|exact HB.out|apply wA|apply wN_|apply wD|refine wS ?_ GE264.out)|exact HB.out)))
        (case aF => exact (fun k_ hk => ⟨Kd.fresh' (Kd.R_lt (by (with_reducible repeat (first|apply rA|apply rN|apply rD));exact HO277.out)) k_ hk,Kd.freshB (g:=gb264) (o:=.cells #[.int .i64 a2_0,.int .i64 a2_1,.int .i64 a2_2] 48 (0,0)) (by (with_reducible repeat (first|refine bN ?_ _|refine bD ?_|refine bA ?_ _));exact BK264.out) k_ hk⟩))
        (case aO => exact (by (with_reducible repeat (first|apply rA|apply rN|apply rD));exact rM HO267.out (fun _ hk => ⟨hk.1.2,hk.2⟩)))
        (case aS => exact (wZ (by repeat (first|(with_reducible first|exact HB.out|apply wA|apply wN_|apply wD|refine wS ?_ GE264.out)|exact HB.out))))
        (case aL => have:=LMc6.out;omega)
        intro v273 w19 ho hb hg hat
        rw [← Ny272.out] at ho
        have n0_ := aM (blk_grown (g := gb264) (o := .cells #[.int .i64 a2_0, .int .i64 a2_1, .int .i64 a2_2] 48 (0, 0)) (by (with_reducible repeat (first | refine bN ?_ _ | refine bD ?_ | refine bA ?_ _)); exact BK264.out) hg (Kd.R_away HO267.out (fun _ hk => hk.2)))
        have n1_ := aM (Kd.R_after (ok := (fun k_ => k_ ≠ gb264)) (by (with_reducible repeat (first | apply rA | apply rN | apply rD)); exact rM HO277.out (fun _ hk => ⟨hk.1.2, hk.2⟩)) hg hat)
        have n2_ := aM (hb)
        have n3_ := aM (ho)
        clear BK264
        clear HO277
        clear HB
        clear HO267
        have BK264 := n0_
        have HO277 := n1_
        have HB := n2_
        have HO274 := n3_
        clear n0_ n1_ n2_ n3_
        clear ho hb hg hat
        refine hK.out _ _ ⟨(bC BK264.out 0).trans rfl, (bC BK264.out 1).trans rfl, (bC BK264.out 2).trans rfl⟩ (fun hHeld => ?_)
        clear hK K
        refine norm_ (a' := ?_) ?_ ?_
        rotate_left
        ·show Act.put _ (some 11) _ = _
         simp only [Act.put, lS, lZ, lU, i64_w, i32_w]
         rfl
        exact norm_ (by simp only [putAll, Act.put, lS, lZ, lU]) (hCont (v266, v273, v276) _ ⟨hHeld, (by (with_reducible repeat (first | apply rA | apply rN | apply rD)); exact HO274.out), (by (with_reducible repeat (first | apply rA | apply rN | apply rD)); exact rM HO277.out (fun _ hk => ⟨hk.2, hk.1⟩)), (by (with_reducible repeat (first | refine bN ?_ _ | refine bD ?_ | refine bA ?_ _)); exact BK264.out), (by repeat (first | (with_reducible first | exact HB.out | apply wA | apply wN_ | apply wD | refine wS ?_ GE264.out) | exact HB.out))⟩)
      rintro ⟨v266, v273, v276⟩ w20 ⟨hS_, h0_, h1_, h2_, h3_⟩
      have n0_ : Aside0 (Kd.R k48 48 w20 w.heap.size (fun k_ => some k_ ≠ (v276 : Value).ownBlock ∧ k_ ≠ gb264) v273 y272) := ⟨h0_⟩
      have n1_ : Aside0 (Kd.R k48 48 w20 w.heap.size (fun k_ => some k_ ≠ (v273 : Value).ownBlock ∧ k_ ≠ gb264) v276 y275) := ⟨h1_⟩
      have n2_ : Aside0 (w20.heap[gb264]? = some (.cells #[.int .i64 a2_0, .int .i64 a2_1, .int .i64 a2_2] 48 (0, 0))) := ⟨h2_⟩
      have n3_ : Aside0 (Below w.heap.size w w20) := ⟨h3_⟩
      clear BK264
      clear HB
      clear h0_ h1_ h2_ h3_
      have HO274 := n0_
      have HO277 := n1_
      have BK264 := n2_
      have HB := n3_
      clear n0_ n1_ n2_ n3_
      have hHeld : w20.cell? ⟨gb264, 0, none⟩ = some (.int .i64 a2_0) ∧ w20.cell? ⟨gb264, 1, none⟩ = some (.int .i64 a2_1) ∧ w20.cell? ⟨gb264, 2, none⟩ = some (.int .i64 a2_2) := hS_
      obtain ⟨Ao22, co22, eo22⟩ := Kd.R_slice HO277.out
      (first | subst eo22 | (injection eo22 with f1_ f2_ f3_; have f4_ := f1_.symm; have f5_ := f3_.symm; clear f1_ f2_ f3_; subst f4_; subst f5_))
      refine norm_ (a' := ?_) ?_ ?_
      rotate_left
      ·simp only [putAll, Act.put, lS, lZ, lU]
       rfl
      refine one_ (i := 7) (N := some 14) #[true, true, true, true, true, true, true, true, true, true, true, false, false] rfl rfl (one_of HT_.out (by kernel_rfl)) (by decide) (fun K hK => ?_)
      refine Kd.R_append_rows_step k48 (w0 := w) w.heap.size (by rfl) (.tmp 11) (.tmp 13) 39 48 (.agg #[(.int .i64 0), (.int .i64 0), (.int .i64 0)]) 24 rfl Try.underlying39 info48 rfl (by decide) (by omega) v273 y272 y275 _ _ _ (fun k_ => some k_ ≠ (.slice Ao22 y275.length co22 : Value).ownBlock ∧ k_ ≠ gb264) (fun _ => False) rfl rfl ?aO ?aR (fun _ _ h => h) (fun _ h => h.elim) ?aF ?aB ?aS ?aL ?_
      (case aR => repeat (first|exact (Kd.R_reads' HO277.out).2.2|(with_reducible refine cA ?_ _)|(with_reducible refine cN ?_ _)|(with_reducible refine cD ?_)))
      (case aB => exact (by repeat (first|(with_reducible first|exact HB.out|apply wA|apply wN_|apply wD|refine wS ?_ GE264.out)|exact HB.out)))
      (case aF => exact (fun k_ hk => ⟨Kd.fresh' (Kd.R_lt (by (with_reducible repeat (first|apply rA|apply rN|apply rD));exact HO277.out)) k_ hk,Kd.freshB (g:=gb264) (o:=.cells #[.int .i64 a2_0,.int .i64 a2_1,.int .i64 a2_2] 48 (0,0)) (by (with_reducible repeat (first|refine bN ?_ _|refine bD ?_|refine bA ?_ _));exact BK264.out) k_ hk⟩))
      (case aO => exact (by (with_reducible repeat (first|apply rA|apply rN|apply rD));exact HO274.out))
      (case aS => exact (wZ (by repeat (first|(with_reducible first|exact HB.out|apply wA|apply wN_|apply wD|refine wS ?_ GE264.out)|exact HB.out))))
      (case aL => have:=LMc7.out;omega)
      intro v279 w21 ho hb hg hat
      rw [← Ny278.out] at ho
      have n0_ := aM (blk_grown (g := gb264) (o := .cells #[.int .i64 a2_0, .int .i64 a2_1, .int .i64 a2_2] 48 (0, 0)) (by (with_reducible repeat (first | refine bN ?_ _ | refine bD ?_ | refine bA ?_ _)); exact BK264.out) hg (Kd.R_away HO274.out (fun _ hk => hk.2)))
      have n1_ := aM (Kd.R_after (ok := (fun k_ => k_ ≠ gb264)) (by (with_reducible repeat (first | apply rA | apply rN | apply rD)); exact rM HO277.out (fun _ hk => ⟨hk.2, hk.1⟩)) hg hat)
      have n2_ := aM (hb)
      have n3_ := aM (ho)
      clear BK264
      clear HO277
      clear HB
      clear HO274
      have BK264 := n0_
      have HO277 := n1_
      have HB := n2_
      have HO280 := n3_
      clear n0_ n1_ n2_ n3_
      clear ho hb hg hat
      refine hK.out _ _ ⟨(bC BK264.out 0).trans rfl, (bC BK264.out 1).trans rfl, (bC BK264.out 2).trans rfl⟩ (fun hHeld => ?_)
      clear hK K
      refine norm_ (a' := ?_) ?_ ?_
      rotate_left
      ·show Act.put _ (some 14) _ = _
       simp only [Act.put, lS, lZ, lU, i64_w, i32_w]
       rfl
      refine one_ (i := 11) (N := some 18) #[true, true, true, true, true, true, true, true, true, true, true, true, false] rfl rfl (one_of HT_.out (by kernel_rfl)) (by decide) (fun K hK => ?_)
      refine Kd.R_append_rows_step k48 (w0 := w) w.heap.size (by rfl) (.tmp 14) (.tmp 17) 39 48 (.agg #[(.int .i64 0), (.int .i64 0), (.int .i64 0)]) 24 rfl Try.underlying39 info48 rfl (by decide) (by omega) v279 y278 y281 _ _ _ (fun k_ => some k_ ≠ (.slice Ao22 y275.length co22 : Value).ownBlock ∧ k_ ≠ gb264) (fun _ => False) rfl rfl ?aO ?aR (fun _ _ h => h) (fun _ h => h.elim) ?aF ?aB ?aS ?aL ?_
      (case aR => repeat (first|exact (cB HR284.out HB.out)|(with_reducible refine cA ?_ _)|(with_reducible refine cN ?_ _)|(with_reducible refine cD ?_)))
      (case aB => exact (by repeat (first|(with_reducible first|exact HB.out|apply wA|apply wN_|apply wD|refine wS ?_ GE264.out)|exact HB.out)))
      (case aF => exact (fun k_ hk => ⟨Kd.fresh' (Kd.R_lt (by (with_reducible repeat (first|apply rA|apply rN|apply rD));exact HO277.out)) k_ hk,Kd.freshB (g:=gb264) (o:=.cells #[.int .i64 a2_0,.int .i64 a2_1,.int .i64 a2_2] 48 (0,0)) (by (with_reducible repeat (first|refine bN ?_ _|refine bD ?_|refine bA ?_ _));exact BK264.out) k_ hk⟩))
      (case aO => exact (by (with_reducible repeat (first|apply rA|apply rN|apply rD));exact HO280.out))
      (case aS => exact (wZ (by repeat (first|(with_reducible first|exact HB.out|apply wA|apply wN_|apply wD|refine wS ?_ GE264.out)|exact HB.out))))
      (case aL => have:=LMc10.out;omega)
      intro v286 w23 ho hb hg hat
      rw [← Ny285.out] at ho
      have n0_ := aM (blk_grown (g := gb264) (o := .cells #[.int .i64 a2_0, .int .i64 a2_1, .int .i64 a2_2] 48 (0, 0)) (by (with_reducible repeat (first | refine bN ?_ _ | refine bD ?_ | refine bA ?_ _)); exact BK264.out) hg (Kd.R_away HO280.out (fun _ hk => hk.2)))
      have n1_ := aM (Kd.R_after (ok := (fun k_ => k_ ≠ gb264)) (by (with_reducible repeat (first | apply rA | apply rN | apply rD)); exact HO277.out) hg hat)
      have n2_ := aM (hb)
      have n3_ := aM (ho)
      clear BK264
      clear HO277
      clear HB
      clear HO280
      have BK264 := n0_
      have HO277 := n1_
      have HB := n2_
      have HO287 := n3_
      clear n0_ n1_ n2_ n3_
      clear ho hb hg hat
      refine hK.out _ _ ⟨(bC BK264.out 0).trans rfl, (bC BK264.out 1).trans rfl, (bC BK264.out 2).trans rfl⟩ (fun hHeld => ?_)
      clear hK K
      refine norm_ (a' := ?_) ?_ ?_
      rotate_left
      ·show Act.put _ (some 18) _ = _
       simp only [Act.put, lS, lZ, lU, i64_w, i32_w]
       rfl
      refine pure_ (i := 12) (N := some 6) (v := ?_) (a' := ?_) #[true, true, true, true, true, true, true, true, true, true, true, true, true] rfl rfl (any_of HT_.out (by kernel_rfl)) (fun _ _ _ h => h) (Or.inl ⟨by rfl, ?_⟩) ?_ ?_
      rotate_left
      ·intro w'
       go_simp
       with_reducible rfl
      rotate_left
      ·simp only [Act.put, lS, lZ, lU, i64_w, i32_w]
       rfl
      refine done_ (done_of HT_.out (by kernel_rfl)) ?_
      try go_wp2
      go_ret
      exact ⟨_, by first | rfl | (simp [errW_none, errW_some] <;> rfl) | (simp [*, errW_none, errW_some] <;> rfl), by (with_reducible repeat (first | apply rA | apply rN | apply rD)); exact rM HO287.out (fun _ hk => trivial), by repeat (first | (with_reducible first | exact HB.out | apply wA | apply wN_ | apply wD | refine wS ?_ GE264.out) | exact HB.out)⟩
     ·rw [if_neg c10] at H
      exact absurd H (by simp)
    ·rw [if_neg c7] at H
     exact absurd H (by simp)
   ·rw [if_neg c6] at H
    exact absurd H (by simp)
  ·rw [if_neg c5] at H
   exact absurd H (by simp)
 ·rw [if_neg c4] at H
  exact absurd H (by simp)

end Go.Proofs.Ytflhbakjlbmfbaa.Pr
