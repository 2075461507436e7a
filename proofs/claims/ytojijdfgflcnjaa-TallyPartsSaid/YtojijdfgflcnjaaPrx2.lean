-- Printed by a program of this session (wip/tools/myprint.py) that runs the kit's print with contracts of this session's own.
import Derived.Test.YtojijdfgflcnjaaPrx0
namespace Go.Proofs.Ytojijdfgflcnjaa.Pr
open Go.RowKit Go.Proofs.YtojijdfgflcnjaaW.PrintWords Go.Proofs.YtojijdfgflcnjaaW.PrintLast Go.Proofs.YtojijdfgflcnjaaW.PrintMore
attribute [local go_sem] max2_int min2_int max_two min_two max_three min_three max_four min_four   -- for this text's walks alone
set_option linter.unusedVariables false
set_option linter.unusedSimpArgs false

/-! ### rickyardlaw5_Made: function 24 -/
def rickyardlaw5_Made.l0 : Nat → List Int → List (S61) → Int → Int → Option ((List (S61)))
 | 0, _, _, _, _ => none
 | k + 1, x0, x3, x4, x5 => if (wrap64 (x5 + 1)) < (x0.length : Int) then (if 0 ≤ x5 then (if x5 < (x0.length : Int) then (if (x3.length : Int) > 0 then (if 0 ≤ (wrap64 (x5 + 1)) then (if (wrap64 (1 + (Int.tmod (wrap64 (rd x0 (wrap64 (x5 + 1)))) 20))) > (wrap64 (256 - (wrap64 ((wrap64 (x4 + (Int.tmod (wrap64 (rd x0 x5)) 9))) + 1)))) then (some x3) else (if x3.length < 8796093022208 then (rickyardlaw5_Made.l0 k x0 (x3 ++ [(⟨wrap64 ((wrap64 (x4 + (Int.tmod (wrap64 (rd x0 x5)) 9))) + 1), wrap64 (1 + (Int.tmod (wrap64 (rd x0 (wrap64 (x5 + 1)))) 20))⟩ : S61)]) (wrap64 ((wrap64 ((wrap64 (x4 + (Int.tmod (wrap64 (rd x0 x5)) 9))) + 1)) + (wrap64 (1 + (Int.tmod (wrap64 (rd x0 (wrap64 (x5 + 1)))) 20))))) (wrap64 (x5 + 2))) else (none))) else (none)) else (if 0 ≤ (wrap64 (x5 + 1)) then (if (wrap64 (1 + (Int.tmod (wrap64 (rd x0 (wrap64 (x5 + 1)))) 20))) > (wrap64 (256 - (wrap64 (x4 + (Int.tmod (wrap64 (rd x0 x5)) 9))))) then (some x3) else (if x3.length < 8796093022208 then (rickyardlaw5_Made.l0 k x0 (x3 ++ [(⟨wrap64 (x4 + (Int.tmod (wrap64 (rd x0 x5)) 9)), wrap64 (1 + (Int.tmod (wrap64 (rd x0 (wrap64 (x5 + 1)))) 20))⟩ : S61)]) (wrap64 ((wrap64 (x4 + (Int.tmod (wrap64 (rd x0 x5)) 9))) + (wrap64 (1 + (Int.tmod (wrap64 (rd x0 (wrap64 (x5 + 1)))) 20))))) (wrap64 (x5 + 2))) else (none))) else (none))) else (none)) else (none)) else (some x3)
def rickyardlaw5_Made.f (k : Nat) (l0 : List Int) : Option ((List (S61))) := rickyardlaw5_Made.l0 k l0 ([] : List (S61)) 0 0
theorem rickyardlaw5_Made.mono_l : ∀ k, (∀ y0 y1 y2 y3, LeO (rickyardlaw5_Made.l0 k y0 y1 y2 y3) (rickyardlaw5_Made.l0 (k + 1) y0 y1 y2 y3))
 | 0 => fun _ _ _ _ r h => by simp [rickyardlaw5_Made.l0] at h
 | k + 1 => by
  have ih0 := rickyardlaw5_Made.mono_l k
  ·intro y0 y1 y2 y3
   unfold rickyardlaw5_Made.l0
   repeat' first
   | (with_reducible exact ih0 _ _ _ _)
   | (with_reducible exact LeO.refl _)
   | (with_reducible exact LeO.none _)
   | (with_reducible refine LeO.ite ?_ ?_)
   | (with_reducible refine LeO.bind ?_ (fun _ => ?_))
   | exact ih0 _ _ _ _
   | exact LeO.none _
   | refine LeO.ite ?_ ?_
   | refine LeO.bind ?_ (fun _ => ?_)
theorem rickyardlaw5_Made.mono : ∀ a0 k, LeO (rickyardlaw5_Made.f k a0) (rickyardlaw5_Made.f (k + 1) a0) := by
 intro a0 k
 have ih0 := rickyardlaw5_Made.mono_l k
 unfold rickyardlaw5_Made.f
 repeat' first
   | (with_reducible exact ih0 _ _ _ _)
   | (with_reducible exact LeO.refl _)
   | (with_reducible exact LeO.none _)
   | (with_reducible refine LeO.ite ?_ ?_)
   | (with_reducible refine LeO.bind ?_ (fun _ => ?_))
   | exact ih0 _ _ _ _
   | exact LeO.none _
   | refine LeO.ite ?_ ?_
   | refine LeO.bind ?_ (fun _ => ?_)
set_option maxHeartbeats 8000000 in
set_option maxRecDepth 100000 in
theorem rickyardlaw5_Made.calls (k : Nat) (A0 : Option Addr) (c0 : Nat) (l0 : List Int) (r : List (S61)) (w : World) (hr0 : Kd.C (Kd.int .u8) w A0 l0.length l0) (hc0 : l0.length ≤ c0) (h : rickyardlaw5_Made.f k l0 = some r) :
  Calls Try.prog 24 #[.slice A0 l0.length c0] w fun e w' => ∃ v0_ : Value, e = .returned (v0_) ∧ Kd.R k61 61 w' w.heap.size (fun _ => True) v0_ r ∧ Below w.heap.size w w' := by
 have hu61 := Try.underlying61
 have HR0 := Aside0.mk hr0
 have HC0 := Aside0.mk hc0
 clear hr0 hc0
 have HB := Aside0.mk (Below.refl w.heap.size w)
 have H : (rickyardlaw5_Made.l0 k l0 ([] : List (S61)) 0 0) = some r := h
 clear h
 have H' := Aside0.mk H
 clear H
 go_enter Try.func24, Try.ntmps24
 go_wp2
 go_loopg [3, 4, 5] k (fun kq v3 v4 v5 w' => ∃ (x3_1 : List (S61)) (x4_1 : Int) (x5_1 : Int), v4 = .int .i64 x4_1 ∧ v5 = .int .i64 x5_1 ∧ Aside0 (rickyardlaw5_Made.l0 kq l0 x3_1 x4_1 x5_1 = some r) ∧ Aside0 (kq ≤ k) ∧ Aside0 (Kd.R k61 61 w' w.heap.size (fun _ => True) v3 x3_1) ∧ Aside0 (Below w.heap.size w w'))
 case atStart => exact ⟨(([] : List (S61))), (0), (0), (by first | rfl | (simp; done) | (simp [*]; done)), (by first | rfl | (simp; done) | (simp [*]; done)), H', ⟨Nat.le_refl _⟩, ⟨by first | exact Kd.R_nil _ _ _ _ _ | exact Kd.N_nil _ _ _ _ _ | exact Kd.V_nil _ _ _ _ _ | exact Kd.Q_nil _ _ _ _ _ | exact Kd.S_nil _ _ _ _ _⟩, ⟨by repeat (first | (with_reducible first | exact HB.out | apply below_alloc | apply pw_below_drewN | apply below_drew1) | exact HB.out)⟩⟩
 case round =>
  clear H'
  obtain ⟨x3_1, x4_1, x5_1, rfl, rfl, HA, HK1, HO_3, HB⟩ := hrel
  cases gk with
  | zero => exact absurd HA.out (by simp [rickyardlaw5_Made.l0])
  | succ k1 =>
   have H := HA.out
   clear HA
   simp only [rickyardlaw5_Made.l0] at H
   by_cases c2 : (wrap64 (x5_1 + 1)) < (l0.length : Int)
   ·rw [if_pos c2] at H
    have c2b0 : decide ((wrap64 (x5_1 + 1)) < (l0.length : Int)) = true := decide_eq_true c2
    clear c2
    by_cases c3 : 0 ≤ x5_1
    ·rw [if_pos c3] at H
     have c3b0 : decide (0 ≤ x5_1) = true := decide_eq_true c3
     clear c3
     by_cases c4 : x5_1 < (l0.length : Int)
     ·rw [if_pos c4] at H
      have c4b0 : decide (x5_1 < (l0.length : Int)) = true := decide_eq_true c4
      clear c4
      by_cases c5 : (x3_1.length : Int) > 0
      ·rw [if_pos c5] at H
       have c5b0 : decide (0 < (x3_1.length : Int)) = true := decide_eq_true c5
       have c5b1 : decide (0 < x3_1.length) = true := decide_eq_true (by omega)
       clear c5
       obtain ⟨ji6, hji6⟩ : ∃ j_ : Int, (wrap64 (x5_1 + 1)) = j_ := ⟨_, rfl⟩
       replace H : (if 0 ≤ (ji6) then (if (wrap64 (1 + (Int.tmod (wrap64 (rd l0 (ji6))) 20))) > (wrap64 (256 - (wrap64 ((wrap64 (x4_1 + (Int.tmod (wrap64 (rd l0 x5_1)) 9))) + 1)))) then (some x3_1) else (if x3_1.length < 8796093022208 then (rickyardlaw5_Made.l0 k1 l0 (x3_1 ++ [(⟨wrap64 ((wrap64 (x4_1 + (Int.tmod (wrap64 (rd l0 x5_1)) 9))) + 1), wrap64 (1 + (Int.tmod (wrap64 (rd l0 (ji6))) 20))⟩ : S61)]) (wrap64 ((wrap64 ((wrap64 (x4_1 + (Int.tmod (wrap64 (rd l0 x5_1)) 9))) + 1)) + (wrap64 (1 + (Int.tmod (wrap64 (rd l0 (ji6))) 20))))) (wrap64 (x5_1 + 2))) else (none))) else (none)) = some r := by first | (rw [hji6] at H; exact H) | (simp only [hji6] at H ⊢; exact H)
       (try rw [hji6] at c2b0)
       have hji6w : (IntKind.i64.wrap (x5_1 + 1)) = ji6 := (i64_w _).trans hji6
       by_cases c7 : 0 ≤ (ji6)
       ·rw [if_pos c7] at H
        have c7b0 : decide (0 ≤ (ji6)) = true := decide_eq_true c7
        clear c7
        by_cases c8 : (wrap64 (1 + (Int.tmod (wrap64 (rd l0 (ji6))) 20))) > (wrap64 (256 - (wrap64 ((wrap64 (x4_1 + (Int.tmod (wrap64 (rd l0 x5_1)) 9))) + 1))))
        ·rw [if_pos c8] at H
         have c8b0 : decide ((wrap64 (256 - (wrap64 ((wrap64 (x4_1 + (Int.tmod (wrap64 (rd l0 x5_1)) 9))) + 1)))) < (wrap64 (1 + (Int.tmod (wrap64 (rd l0 (ji6))) 20)))) = true := decide_eq_true c8
         clear c8
         obtain rfl := Option.some.inj H
         have p111 : 0 ≤ (x5_1 : Int) := of_decide_eq_true (by first | (with_reducible assumption) | assumption)
         have q111 : x5_1 < (l0.length : Int) := of_decide_eq_true (by first | (with_reducible assumption) | assumption)
         obtain ⟨ad111, e111, hx111_0⟩ := Kd.at_int HR0.out x5_1 p111 q111
         cases e111
         replace hx111_0 := (HB.out.cell (World.block_lt_of_cell? w _ hx111_0)).trans hx111_0
         replace p111 := eq_true p111
         replace q111 := eq_true q111
         obtain ⟨Ao9, co9, eo9⟩ := Kd.R_slice HO_3.out
         subst eo9
         have p112 : 0 ≤ ((ji6) : Int) := of_decide_eq_true (by first | (with_reducible assumption) | assumption)
         have q112 : (ji6) < (l0.length : Int) := of_decide_eq_true (by first | (with_reducible assumption) | assumption)
         obtain ⟨ad112, e112, hx112_0⟩ := Kd.at_int HR0.out (ji6) p112 q112
         obtain rfl : ad111 = ad112 := (by injection e112)
         replace hx112_0 := (HB.out.cell (World.block_lt_of_cell? w _ hx112_0)).trans hx112_0
         replace p112 := eq_true p112
         replace q112 := eq_true q112
         go_wp2
         go_ret
         exact ⟨_, by first | rfl | (simp [errW_none, errW_some] <;> rfl) | (simp only [← hji6]; first | rfl | (simp [errW_none, errW_some] <;> rfl)) | (simp [*, errW_none, errW_some] <;> rfl), by (with_reducible repeat (first | apply Kd.R_alloc | apply Kd.R_drewN | apply Kd.R_drew)); exact HO_3.out, by repeat (first | (with_reducible first | exact HB.out | apply below_alloc | apply pw_below_drewN | apply below_drew1) | exact HB.out)⟩
        ·rw [if_neg c8] at H
         have c8b0 : decide ((wrap64 (256 - (wrap64 ((wrap64 (x4_1 + (Int.tmod (wrap64 (rd l0 x5_1)) 9))) + 1)))) < (wrap64 (1 + (Int.tmod (wrap64 (rd l0 (ji6))) 20)))) = false := decide_eq_false c8
         clear c8
         by_cases c10 : x3_1.length < 8796093022208
         ·rw [if_pos c10] at H
          have LMc10 := Aside0.mk c10
          clear c10
          obtain ⟨y113, hy113⟩ : ∃ y_ : List (S61), y_ = (x3_1 ++ [(⟨wrap64 ((wrap64 (x4_1 + (Int.tmod (wrap64 (rd l0 x5_1)) 9))) + 1), wrap64 (1 + (Int.tmod (wrap64 (rd l0 (ji6))) 20))⟩ : S61)]) := ⟨_, rfl⟩
          replace H : (rickyardlaw5_Made.l0 k1 l0 y113 (wrap64 ((wrap64 ((wrap64 (x4_1 + (Int.tmod (wrap64 (rd l0 x5_1)) 9))) + 1)) + (wrap64 (1 + (Int.tmod (wrap64 (rd l0 (ji6))) 20))))) (wrap64 (x5_1 + 2))) = some r := by first | (rw [hy113]; with_reducible exact H) | (have H2_ := (Option.bind_some _ _).symm.trans H; rw [hy113]; with_reducible exact H2_) | (have H2_ := (Option.bind_some _ _).symm.trans H; with_reducible exact H2_) | with_reducible exact H | (rw [hy113]; exact H) | exact H
          have Ny113 := Aside0.mk hy113
          clear hy113
          have H' := Aside0.mk H
          clear H
          have p111 : 0 ≤ (x5_1 : Int) := of_decide_eq_true (by first | (with_reducible assumption) | assumption)
          have q111 : x5_1 < (l0.length : Int) := of_decide_eq_true (by first | (with_reducible assumption) | assumption)
          obtain ⟨ad111, e111, hx111_0⟩ := Kd.at_int HR0.out x5_1 p111 q111
          cases e111
          replace hx111_0 := (HB.out.cell (World.block_lt_of_cell? w _ hx111_0)).trans hx111_0
          replace p111 := eq_true p111
          replace q111 := eq_true q111
          obtain ⟨Ao11, co11, eo11⟩ := Kd.R_slice HO_3.out
          subst eo11
          have p112 : 0 ≤ ((ji6) : Int) := of_decide_eq_true (by first | (with_reducible assumption) | assumption)
          have q112 : (ji6) < (l0.length : Int) := of_decide_eq_true (by first | (with_reducible assumption) | assumption)
          obtain ⟨ad112, e112, hx112_0⟩ := Kd.at_int HR0.out (ji6) p112 q112
          obtain rfl : ad111 = ad112 := (by injection e112)
          replace hx112_0 := (HB.out.cell (World.block_lt_of_cell? w _ hx112_0)).trans hx112_0
          replace p112 := eq_true p112
          replace q112 := eq_true q112
          go_wp2_with (first | ((with_reducible refine gate_builtin (b := .append) (xs := #[.tmp 39, .tmp 43]) rfl ?_); at_builtin; refine Kd.R_append k61 (w0 := w) w.heap.size rfl (.tmp 39) (.tmp 43) 43 61 (.agg #[(.int .i64 0), (.int .i64 0)]) 16 rfl Try.underlying43 info61 rfl (by decide) (by omega) (.slice Ao11 x3_1.length co11) x3_1 (⟨wrap64 ((wrap64 (x4_1 + (Int.tmod (wrap64 (rd l0 x5_1)) 9))) + 1), wrap64 (1 + (Int.tmod (wrap64 (rd l0 (ji6))) 20))⟩ : S61) [.int .i64 (wrap64 ((wrap64 (x4_1 + (Int.tmod (wrap64 (rd l0 x5_1)) 9))) + 1)), .int .i64 (wrap64 (1 + (Int.tmod (wrap64 (rd l0 (ji6))) 20)))] (fun _ => True) (fun _ => False) rfl rfl ?aP (fun _ hk => hk.elim) ?aF ?aO ?aB ?aS ?aL ?_; (case aP => exact k61_mkM _ _ _ (⟨wrap64 ((wrap64 (x4_1 + (Int.tmod (wrap64 (rd l0 x5_1)) 9))) + 1), wrap64 (1 + (Int.tmod (wrap64 (rd l0 (ji6))) 20))⟩ : S61)); (case aB => exact (by repeat (first | (with_reducible first | exact HB.out | apply below_alloc | apply pw_below_drewN | apply below_drew1) | exact HB.out))); (case aF => exact (fun _ _ => trivial)); (case aO => exact (by (with_reducible repeat (first | apply Kd.R_alloc | apply Kd.R_drewN | apply Kd.R_drew)); exact HO_3.out)); (case aS => exact (below_size (by repeat (first | (with_reducible first | exact HB.out | apply below_alloc | apply pw_below_drewN | apply below_drew1) | exact HB.out)))); (case aL => have := LMc10.out; omega); intro v114 w12 ho hb hg hat; rw [← Ny113.out] at ho; have n0_ := Aside0.mk (hb); have n1_ := Aside0.mk (ho); clear HB; clear HO_3; have HB := n0_; have HO115 := n1_; clear n0_ n1_; clear ho hb hg hat))
          go_roundg k1
          case measure => have := HK1.out; omega
          case rel => exact ⟨(y113), (wrap64 ((wrap64 ((wrap64 (x4_1 + (Int.tmod (wrap64 (rd l0 x5_1)) 9))) + 1)) + (wrap64 (1 + (Int.tmod (wrap64 (rd l0 (ji6))) 20))))), (wrap64 (x5_1 + 2)), (by first | rfl | (simp; done) | (simp only [← hji6] <;> (first | rfl | simp)) | (simp [*]; done)), (by first | rfl | (simp; done) | (simp [*]; done)), H', ⟨by have := HK1.out; omega⟩, ⟨by (with_reducible repeat (first | apply Kd.R_alloc | apply Kd.R_drewN | apply Kd.R_drew)); exact HO115.out⟩, ⟨by repeat (first | (with_reducible first | exact HB.out | apply below_alloc | apply pw_below_drewN | apply below_drew1) | exact HB.out)⟩⟩
         ·rw [if_neg c10] at H
          exact absurd H (by simp)
       ·rw [if_neg c7] at H
        exact absurd H (by simp)
      ·rw [if_neg c5] at H
       have c5b0 : decide (0 < (x3_1.length : Int)) = false := decide_eq_false c5
       have c5b1 : decide (0 < x3_1.length) = false := decide_eq_false (by omega)
       clear c5
       obtain ⟨ji13, hji13⟩ : ∃ j_ : Int, (wrap64 (x5_1 + 1)) = j_ := ⟨_, rfl⟩
       replace H : (if 0 ≤ (ji13) then (if (wrap64 (1 + (Int.tmod (wrap64 (rd l0 (ji13))) 20))) > (wrap64 (256 - (wrap64 (x4_1 + (Int.tmod (wrap64 (rd l0 x5_1)) 9))))) then (some x3_1) else (if x3_1.length < 8796093022208 then (rickyardlaw5_Made.l0 k1 l0 (x3_1 ++ [(⟨wrap64 (x4_1 + (Int.tmod (wrap64 (rd l0 x5_1)) 9)), wrap64 (1 + (Int.tmod (wrap64 (rd l0 (ji13))) 20))⟩ : S61)]) (wrap64 ((wrap64 (x4_1 + (Int.tmod (wrap64 (rd l0 x5_1)) 9))) + (wrap64 (1 + (Int.tmod (wrap64 (rd l0 (ji13))) 20))))) (wrap64 (x5_1 + 2))) else (none))) else (none)) = some r := by first | (rw [hji13] at H; exact H) | (simp only [hji13] at H ⊢; exact H)
       (try rw [hji13] at c2b0)
       have hji13w : (IntKind.i64.wrap (x5_1 + 1)) = ji13 := (i64_w _).trans hji13
       by_cases c14 : 0 ≤ (ji13)
       ·rw [if_pos c14] at H
        have c14b0 : decide (0 ≤ (ji13)) = true := decide_eq_true c14
        clear c14
        by_cases c15 : (wrap64 (1 + (Int.tmod (wrap64 (rd l0 (ji13))) 20))) > (wrap64 (256 - (wrap64 (x4_1 + (Int.tmod (wrap64 (rd l0 x5_1)) 9)))))
        ·rw [if_pos c15] at H
         have c15b0 : decide ((wrap64 (256 - (wrap64 (x4_1 + (Int.tmod (wrap64 (rd l0 x5_1)) 9))))) < (wrap64 (1 + (Int.tmod (wrap64 (rd l0 (ji13))) 20)))) = true := decide_eq_true c15
         clear c15
         obtain rfl := Option.some.inj H
         have p111 : 0 ≤ (x5_1 : Int) := of_decide_eq_true (by first | (with_reducible assumption) | assumption)
         have q111 : x5_1 < (l0.length : Int) := of_decide_eq_true (by first | (with_reducible assumption) | assumption)
         obtain ⟨ad111, e111, hx111_0⟩ := Kd.at_int HR0.out x5_1 p111 q111
         cases e111
         replace hx111_0 := (HB.out.cell (World.block_lt_of_cell? w _ hx111_0)).trans hx111_0
         replace p111 := eq_true p111
         replace q111 := eq_true q111
         obtain ⟨Ao16, co16, eo16⟩ := Kd.R_slice HO_3.out
         subst eo16
         have p116 : 0 ≤ ((ji13) : Int) := of_decide_eq_true (by first | (with_reducible assumption) | assumption)
         have q116 : (ji13) < (l0.length : Int) := of_decide_eq_true (by first | (with_reducible assumption) | assumption)
         obtain ⟨ad116, e116, hx116_0⟩ := Kd.at_int HR0.out (ji13) p116 q116
         obtain rfl : ad111 = ad116 := (by injection e116)
         replace hx116_0 := (HB.out.cell (World.block_lt_of_cell? w _ hx116_0)).trans hx116_0
         replace p116 := eq_true p116
         replace q116 := eq_true q116
         go_wp2
         go_ret
         exact ⟨_, by first | rfl | (simp [errW_none, errW_some] <;> rfl) | (simp only [← hji13]; first | rfl | (simp [errW_none, errW_some] <;> rfl)) | (simp [*, errW_none, errW_some] <;> rfl), by (with_reducible repeat (first | apply Kd.R_alloc | apply Kd.R_drewN | apply Kd.R_drew)); exact HO_3.out, by repeat (first | (with_reducible first | exact HB.out | apply below_alloc | apply pw_below_drewN | apply below_drew1) | exact HB.out)⟩
        ·rw [if_neg c15] at H
         have c15b0 : decide ((wrap64 (256 - (wrap64 (x4_1 + (Int.tmod (wrap64 (rd l0 x5_1)) 9))))) < (wrap64 (1 + (Int.tmod (wrap64 (rd l0 (ji13))) 20)))) = false := decide_eq_false c15
         clear c15
         by_cases c17 : x3_1.length < 8796093022208
         ·rw [if_pos c17] at H
          have LMc17 := Aside0.mk c17
          clear c17
          obtain ⟨y117, hy117⟩ : ∃ y_ : List (S61), y_ = (x3_1 ++ [(⟨wrap64 (x4_1 + (Int.tmod (wrap64 (rd l0 x5_1)) 9)), wrap64 (1 + (Int.tmod (wrap64 (rd l0 (ji13))) 20))⟩ : S61)]) := ⟨_, rfl⟩
          replace H : (rickyardlaw5_Made.l0 k1 l0 y117 (wrap64 ((wrap64 (x4_1 + (Int.tmod (wrap64 (rd l0 x5_1)) 9))) + (wrap64 (1 + (Int.tmod (wrap64 (rd l0 (ji13))) 20))))) (wrap64 (x5_1 + 2))) = some r := by first | (rw [hy117]; with_reducible exact H) | (have H2_ := (Option.bind_some _ _).symm.trans H; rw [hy117]; with_reducible exact H2_) | (have H2_ := (Option.bind_some _ _).symm.trans H; with_reducible exact H2_) | with_reducible exact H | (rw [hy117]; exact H) | exact H
          have Ny117 := Aside0.mk hy117
          clear hy117
          have H' := Aside0.mk H
          clear H
          have p111 : 0 ≤ (x5_1 : Int) := of_decide_eq_true (by first | (with_reducible assumption) | assumption)
          have q111 : x5_1 < (l0.length : Int) := of_decide_eq_true (by first | (with_reducible assumption) | assumption)
          obtain ⟨ad111, e111, hx111_0⟩ := Kd.at_int HR0.out x5_1 p111 q111
          cases e111
          replace hx111_0 := (HB.out.cell (World.block_lt_of_cell? w _ hx111_0)).trans hx111_0
          replace p111 := eq_true p111
          replace q111 := eq_true q111
          obtain ⟨Ao18, co18, eo18⟩ := Kd.R_slice HO_3.out
          subst eo18
          have p116 : 0 ≤ ((ji13) : Int) := of_decide_eq_true (by first | (with_reducible assumption) | assumption)
          have q116 : (ji13) < (l0.length : Int) := of_decide_eq_true (by first | (with_reducible assumption) | assumption)
          obtain ⟨ad116, e116, hx116_0⟩ := Kd.at_int HR0.out (ji13) p116 q116
          obtain rfl : ad111 = ad116 := (by injection e116)
          replace hx116_0 := (HB.out.cell (World.block_lt_of_cell? w _ hx116_0)).trans hx116_0
          replace p116 := eq_true p116
          replace q116 := eq_true q116
          go_wp2_with (first | ((with_reducible refine gate_builtin (b := .append) (xs := #[.tmp 39, .tmp 43]) rfl ?_); at_builtin; refine Kd.R_append k61 (w0 := w) w.heap.size rfl (.tmp 39) (.tmp 43) 43 61 (.agg #[(.int .i64 0), (.int .i64 0)]) 16 rfl Try.underlying43 info61 rfl (by decide) (by omega) (.slice Ao18 x3_1.length co18) x3_1 (⟨wrap64 (x4_1 + (Int.tmod (wrap64 (rd l0 x5_1)) 9)), wrap64 (1 + (Int.tmod (wrap64 (rd l0 (ji13))) 20))⟩ : S61) [.int .i64 (wrap64 (x4_1 + (Int.tmod (wrap64 (rd l0 x5_1)) 9))), .int .i64 (wrap64 (1 + (Int.tmod (wrap64 (rd l0 (ji13))) 20)))] (fun _ => True) (fun _ => False) rfl rfl ?aP (fun _ hk => hk.elim) ?aF ?aO ?aB ?aS ?aL ?_; (case aP => exact k61_mkM _ _ _ (⟨wrap64 (x4_1 + (Int.tmod (wrap64 (rd l0 x5_1)) 9)), wrap64 (1 + (Int.tmod (wrap64 (rd l0 (ji13))) 20))⟩ : S61)); (case aB => exact (by repeat (first | (with_reducible first | exact HB.out | apply below_alloc | apply pw_below_drewN | apply below_drew1) | exact HB.out))); (case aF => exact (fun _ _ => trivial)); (case aO => exact (by (with_reducible repeat (first | apply Kd.R_alloc | apply Kd.R_drewN | apply Kd.R_drew)); exact HO_3.out)); (case aS => exact (below_size (by repeat (first | (with_reducible first | exact HB.out | apply below_alloc | apply pw_below_drewN | apply below_drew1) | exact HB.out)))); (case aL => have := LMc17.out; omega); intro v118 w19 ho hb hg hat; rw [← Ny117.out] at ho; have n0_ := Aside0.mk (hb); have n1_ := Aside0.mk (ho); clear HB; clear HO_3; have HB := n0_; have HO119 := n1_; clear n0_ n1_; clear ho hb hg hat))
          go_roundg k1
          case measure => have := HK1.out; omega
          case rel => exact ⟨(y117), (wrap64 ((wrap64 (x4_1 + (Int.tmod (wrap64 (rd l0 x5_1)) 9))) + (wrap64 (1 + (Int.tmod (wrap64 (rd l0 (ji13))) 20))))), (wrap64 (x5_1 + 2)), (by first | rfl | (simp; done) | (simp only [← hji13] <;> (first | rfl | simp)) | (simp [*]; done)), (by first | rfl | (simp; done) | (simp [*]; done)), H', ⟨by have := HK1.out; omega⟩, ⟨by (with_reducible repeat (first | apply Kd.R_alloc | apply Kd.R_drewN | apply Kd.R_drew)); exact HO119.out⟩, ⟨by repeat (first | (with_reducible first | exact HB.out | apply below_alloc | apply pw_below_drewN | apply below_drew1) | exact HB.out)⟩⟩
         ·rw [if_neg c17] at H
          exact absurd H (by simp)
       ·rw [if_neg c14] at H
        exact absurd H (by simp)
     ·rw [if_neg c4] at H
      exact absurd H (by simp)
    ·rw [if_neg c3] at H
     exact absurd H (by simp)
   ·rw [if_neg c2] at H
    have c2b0 : decide ((wrap64 (x5_1 + 1)) < (l0.length : Int)) = false := decide_eq_false c2
    clear c2
    obtain rfl := Option.some.inj H
    go_wp2
    go_ret
    exact ⟨_, by first | rfl | (simp [errW_none, errW_some] <;> rfl) | (simp [*, errW_none, errW_some] <;> rfl), by (with_reducible repeat (first | apply Kd.R_alloc | apply Kd.R_drewN | apply Kd.R_drew)); exact HO_3.out, by repeat (first | (with_reducible first | exact HB.out | apply below_alloc | apply pw_below_drewN | apply below_drew1) | exact HB.out)⟩

-- NOT PRINTED: function 7 (rickyardlaw30_TallyBroken)

/-! ### rickyardlaw30_sign: function 26 -/
def rickyardlaw30_sign.f (a0 : Int) : Option (Int) := if a0 < 0 then (some (-1)) else (if a0 > 0 then (some 1) else (some 0))
set_option maxHeartbeats 8000000 in
set_option maxRecDepth 100000 in
theorem rickyardlaw30_sign.calls (a0 : Int) (r : Int) (w : World) (h : rickyardlaw30_sign.f a0 = some r) :
  Calls Try.prog 26 #[.int .i64 a0] w fun e w' => e = .returned (.int .i64 r) ∧ Drawn0 w w' := by
 have H : (if a0 < 0 then (some (-1)) else (if a0 > 0 then (some 1) else (some 0))) = some r := h
 clear h
 by_cases c2 : a0 < 0
 ·rw [if_pos c2] at H
  have c2b0 : decide (a0 < 0) = true := decide_eq_true c2
  clear c2
  obtain rfl := Option.some.inj H
  go_enter Try.func26, Try.ntmps26
  go_wp2
  go_ret
  exact ⟨by first | rfl | (simp; done) | (simp [*]; done), by repeat (first | exact Drawn0.refl _ | apply Drawn0.step)⟩
 ·rw [if_neg c2] at H
  have c2b0 : decide (a0 < 0) = false := decide_eq_false c2
  clear c2
  by_cases c3 : a0 > 0
  ·rw [if_pos c3] at H
   have c3b0 : decide (0 < a0) = true := decide_eq_true c3
   clear c3
   obtain rfl := Option.some.inj H
   go_enter Try.func26, Try.ntmps26
   go_wp2
   go_ret
   exact ⟨by first | rfl | (simp; done) | (simp [*]; done), by repeat (first | exact Drawn0.refl _ | apply Drawn0.step)⟩
  ·rw [if_neg c3] at H
   have c3b0 : decide (0 < a0) = false := decide_eq_false c3
   clear c3
   obtain rfl := Option.some.inj H
   go_enter Try.func26, Try.ntmps26
   go_wp2
   go_ret
   exact ⟨by first | rfl | (simp; done) | (simp [*]; done), by repeat (first | exact Drawn0.refl _ | apply Drawn0.step)⟩

-- NOT PRINTED: function 28 (flt_Neg)

-- NOT PRINTED: function 8 (rickyardlaw30_TallyEdges)

/-! ### rickyardref1_Most: function 45 -/
def rickyardref1_Most.l0 : Nat → List (S61) → Int → Int → Option (Int)
 | 0, _, _, _ => none
 | k + 1, x0, x3, x4 => if x4 < (x0.length : Int) then (if 0 ≤ x4 then (rickyardref1_Most.l0 k x0 (mx x3 ((rd_T61 x0 x4).f1)) (wrap64 (x4 + 1))) else (none)) else (some x3)
def rickyardref1_Most.f (k : Nat) (l0 : List (S61)) : Option (Int) := rickyardref1_Most.l0 k l0 0 0
theorem rickyardref1_Most.mono_l : ∀ k, (∀ y0 y1 y2, LeO (rickyardref1_Most.l0 k y0 y1 y2) (rickyardref1_Most.l0 (k + 1) y0 y1 y2))
 | 0 => fun _ _ _ r h => by simp [rickyardref1_Most.l0] at h
 | k + 1 => by
  have ih0 := rickyardref1_Most.mono_l k
  ·intro y0 y1 y2
   unfold rickyardref1_Most.l0
   repeat' first
   | (with_reducible exact ih0 _ _ _)
   | (with_reducible exact LeO.refl _)
   | (with_reducible exact LeO.none _)
   | (with_reducible refine LeO.ite ?_ ?_)
   | (with_reducible refine LeO.bind ?_ (fun _ => ?_))
   | exact ih0 _ _ _
   | exact LeO.none _
   | refine LeO.ite ?_ ?_
   | refine LeO.bind ?_ (fun _ => ?_)
theorem rickyardref1_Most.mono : ∀ a0 k, LeO (rickyardref1_Most.f k a0) (rickyardref1_Most.f (k + 1) a0) := by
 intro a0 k
 have ih0 := rickyardref1_Most.mono_l k
 unfold rickyardref1_Most.f
 repeat' first
   | (with_reducible exact ih0 _ _ _)
   | (with_reducible exact LeO.refl _)
   | (with_reducible exact LeO.none _)
   | (with_reducible refine LeO.ite ?_ ?_)
   | (with_reducible refine LeO.bind ?_ (fun _ => ?_))
   | exact ih0 _ _ _
   | exact LeO.none _
   | refine LeO.ite ?_ ?_
   | refine LeO.bind ?_ (fun _ => ?_)
set_option maxHeartbeats 8000000 in
set_option maxRecDepth 100000 in
theorem rickyardref1_Most.calls (k : Nat) (A0 : Option Addr) (c0 : Nat) (l0 : List (S61)) (r : Int) (w : World) (hr0 : Kd.C k61 w A0 l0.length l0) (hc0 : l0.length ≤ c0) (h : rickyardref1_Most.f k l0 = some r) :
  Calls Try.prog 45 #[.slice A0 l0.length c0] w fun e w' => e = .returned (.int .i64 r) ∧ Below w.heap.size w w' := by
 have HR0 := Aside0.mk hr0
 have HC0 := Aside0.mk hc0
 clear hr0 hc0
 have HB := Aside0.mk (Below.refl w.heap.size w)
 have H : (rickyardref1_Most.l0 k l0 0 0) = some r := h
 clear h
 have H' := Aside0.mk H
 clear H
 go_enter Try.func45, Try.ntmps45
 go_wp2
 go_loopg [3, 4] k (fun kq v3 v4 w' => ∃ (x3_1 : Int) (x4_1 : Int), v3 = .int .i64 x3_1 ∧ v4 = .int .i64 x4_1 ∧ Aside0 (rickyardref1_Most.l0 kq l0 x3_1 x4_1 = some r) ∧ Aside0 (kq ≤ k) ∧ Aside0 (Below w.heap.size w w'))
 case atStart => exact ⟨(0), (0), (by first | rfl | (simp; done) | (simp [*]; done)), (by first | rfl | (simp; done) | (simp [*]; done)), H', ⟨Nat.le_refl _⟩, ⟨by repeat (first | (with_reducible first | exact HB.out | apply below_alloc | apply pw_below_drewN | apply below_drew1) | exact HB.out)⟩⟩
 case round =>
  clear H'
  obtain ⟨x3_1, x4_1, rfl, rfl, HA, HK1, HB⟩ := hrel
  cases gk with
  | zero => exact absurd HA.out (by simp [rickyardref1_Most.l0])
  | succ k1 =>
   have H := HA.out
   clear HA
   simp only [rickyardref1_Most.l0] at H
   by_cases c2 : x4_1 < (l0.length : Int)
   ·rw [if_pos c2] at H
    have c2b0 : decide (x4_1 < (l0.length : Int)) = true := decide_eq_true c2
    clear c2
    by_cases c3 : 0 ≤ x4_1
    ·rw [if_pos c3] at H
     have c3b0 : decide (0 ≤ x4_1) = true := decide_eq_true c3
     clear c3
     obtain ⟨ji4, hji4⟩ : ∃ j_ : Int, (mx x3_1 ((rd_T61 l0 x4_1).f1)) = j_ := ⟨_, rfl⟩
     replace H : (rickyardref1_Most.l0 k1 l0 ji4 (wrap64 (x4_1 + 1))) = some r := by first | (rw [hji4] at H; exact H) | (simp only [hji4] at H ⊢; exact H)
     have hji4_ : (if x3_1 < ((rd_T61 l0 x4_1).f1) then ((rd_T61 l0 x4_1).f1) else x3_1) = ji4 := hji4
     have H' := Aside0.mk H
     clear H
     have p123 : 0 ≤ (x4_1 : Int) := of_decide_eq_true (by first | (with_reducible assumption) | assumption)
     have q123 : x4_1 < (l0.length : Int) := of_decide_eq_true (by first | (with_reducible assumption) | assumption)
     obtain ⟨ad123, e123, hx123_0, hx123_1⟩ := at_T61 HR0.out x4_1 p123 q123
     cases e123
     replace hx123_0 := (HB.out.cell (World.block_lt_of_cell? w _ hx123_0)).trans hx123_0
     replace hx123_1 := (HB.out.cell (World.block_lt_of_cell? w _ hx123_1)).trans hx123_1
     replace p123 := eq_true p123
     replace q123 := eq_true q123
     go_wp2
     go_roundg k1
     case measure => have := HK1.out; omega
     case rel => exact ⟨(ji4), (wrap64 (x4_1 + 1)), (by first | rfl | (simp; done) | (simp only [← hji4] <;> (first | rfl | simp)) | (simp [*]; done)), (by first | rfl | (simp; done) | (simp [*]; done)), H', ⟨by have := HK1.out; omega⟩, ⟨by repeat (first | (with_reducible first | exact HB.out | apply below_alloc | apply pw_below_drewN | apply below_drew1) | exact HB.out)⟩⟩
    ·rw [if_neg c3] at H
     exact absurd H (by simp)
   ·rw [if_neg c2] at H
    have c2b0 : decide (x4_1 < (l0.length : Int)) = false := decide_eq_false c2
    clear c2
    obtain rfl := Option.some.inj H
    go_wp2
    go_ret
    exact ⟨by first | rfl | (simp [errW_none, errW_some] <;> rfl) | (simp [*, errW_none, errW_some] <;> rfl), by repeat (first | (with_reducible first | exact HB.out | apply below_alloc | apply pw_below_drewN | apply below_drew1) | exact HB.out)⟩

/-! ### rickyardref1_Total: function 46 -/
def rickyardref1_Total.l0 : Nat → List (S61) → Int → Int → Option (Int)
 | 0, _, _, _ => none
 | k + 1, x0, x3, x4 => if x4 < (x0.length : Int) then (if 0 ≤ x4 then (rickyardref1_Total.l0 k x0 (wrap64 (x3 + ((rd_T61 x0 x4).f1))) (wrap64 (x4 + 1))) else (none)) else (some x3)
def rickyardref1_Total.f (k : Nat) (l0 : List (S61)) : Option (Int) := rickyardref1_Total.l0 k l0 0 0
theorem rickyardref1_Total.mono_l : ∀ k, (∀ y0 y1 y2, LeO (rickyardref1_Total.l0 k y0 y1 y2) (rickyardref1_Total.l0 (k + 1) y0 y1 y2))
 | 0 => fun _ _ _ r h => by simp [rickyardref1_Total.l0] at h
 | k + 1 => by
  have ih0 := rickyardref1_Total.mono_l k
  ·intro y0 y1 y2
   unfold rickyardref1_Total.l0
   repeat' first
   | (with_reducible exact ih0 _ _ _)
   | (with_reducible exact LeO.refl _)
   | (with_reducible exact LeO.none _)
   | (with_reducible refine LeO.ite ?_ ?_)
   | (with_reducible refine LeO.bind ?_ (fun _ => ?_))
   | exact ih0 _ _ _
   | exact LeO.none _
   | refine LeO.ite ?_ ?_
   | refine LeO.bind ?_ (fun _ => ?_)
theorem rickyardref1_Total.mono : ∀ a0 k, LeO (rickyardref1_Total.f k a0) (rickyardref1_Total.f (k + 1) a0) := by
 intro a0 k
 have ih0 := rickyardref1_Total.mono_l k
 unfold rickyardref1_Total.f
 repeat' first
   | (with_reducible exact ih0 _ _ _)
   | (with_reducible exact LeO.refl _)
   | (with_reducible exact LeO.none _)
   | (with_reducible refine LeO.ite ?_ ?_)
   | (with_reducible refine LeO.bind ?_ (fun _ => ?_))
   | exact ih0 _ _ _
   | exact LeO.none _
   | refine LeO.ite ?_ ?_
   | refine LeO.bind ?_ (fun _ => ?_)
set_option maxHeartbeats 8000000 in
set_option maxRecDepth 100000 in
theorem rickyardref1_Total.calls (k : Nat) (A0 : Option Addr) (c0 : Nat) (l0 : List (S61)) (r : Int) (w : World) (hr0 : Kd.C k61 w A0 l0.length l0) (hc0 : l0.length ≤ c0) (h : rickyardref1_Total.f k l0 = some r) :
  Calls Try.prog 46 #[.slice A0 l0.length c0] w fun e w' => e = .returned (.int .i64 r) ∧ Drawn0 w w' := by
 have HR0 := Aside0.mk hr0
 have HC0 := Aside0.mk hc0
 clear hr0 hc0
 have H : (rickyardref1_Total.l0 k l0 0 0) = some r := h
 clear h
 have H' := Aside0.mk H
 clear H
 go_enter Try.func46, Try.ntmps46
 go_wp2
 go_loopg [3, 4] k (fun kq v3 v4 w' => ∃ (x3_1 : Int) (x4_1 : Int), v3 = .int .i64 x3_1 ∧ v4 = .int .i64 x4_1 ∧ Aside0 (rickyardref1_Total.l0 kq l0 x3_1 x4_1 = some r) ∧ Aside0 (kq ≤ k) ∧ Drawn0 w w')
 case atStart => exact ⟨(0), (0), (by first | rfl | (simp; done) | (simp [*]; done)), (by first | rfl | (simp; done) | (simp [*]; done)), H', ⟨Nat.le_refl _⟩, by repeat (first | exact Drawn0.refl _ | apply Drawn0.step)⟩
 case round =>
  clear H'
  obtain ⟨x3_1, x4_1, rfl, rfl, HA, HK1, ⟨m1, rfl⟩⟩ := hrel
  cases gk with
  | zero => exact absurd HA.out (by simp [rickyardref1_Total.l0])
  | succ k1 =>
   have H := HA.out
   clear HA
   simp only [rickyardref1_Total.l0] at H
   by_cases c2 : x4_1 < (l0.length : Int)
   ·rw [if_pos c2] at H
    have c2b0 : decide (x4_1 < (l0.length : Int)) = true := decide_eq_true c2
    clear c2
    by_cases c3 : 0 ≤ x4_1
    ·rw [if_pos c3] at H
     have c3b0 : decide (0 ≤ x4_1) = true := decide_eq_true c3
     clear c3
     have H' := Aside0.mk H
     clear H
     have p124 : 0 ≤ (x4_1 : Int) := of_decide_eq_true (by first | (with_reducible assumption) | assumption)
     have q124 : x4_1 < (l0.length : Int) := of_decide_eq_true (by first | (with_reducible assumption) | assumption)
     obtain ⟨ad124, e124, hx124_0, hx124_1⟩ := at_T61 HR0.out x4_1 p124 q124
     cases e124
     replace p124 := eq_true p124
     replace q124 := eq_true q124
     go_wp2
     go_roundg k1
     case measure => have := HK1.out; omega
     case rel => exact ⟨(wrap64 (x3_1 + ((rd_T61 l0 x4_1).f1))), (wrap64 (x4_1 + 1)), (by first | rfl | (simp; done) | (simp [*]; done)), (by first | rfl | (simp; done) | (simp [*]; done)), H', ⟨by have := HK1.out; omega⟩, by repeat (first | exact Drawn0.refl _ | apply Drawn0.step)⟩
    ·rw [if_neg c3] at H
     exact absurd H (by simp)
   ·rw [if_neg c2] at H
    have c2b0 : decide (x4_1 < (l0.length : Int)) = false := decide_eq_false c2
    clear c2
    obtain rfl := Option.some.inj H
    go_wp2
    go_ret
    exact ⟨by first | rfl | (simp; done) | (simp [*]; done), by repeat (first | exact Drawn0.refl _ | apply Drawn0.step)⟩

-- NOT PRINTED: function 29 (rickyardref26_Frag)

end Go.Proofs.Ytojijdfgflcnjaa.Pr
