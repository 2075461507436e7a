-- Printed by a program of this session (wip/tools/myprint.py) that runs the kit's print with contracts of this session's own.
import Derived.Test.YtpddppipjlagfaaPrx0
import Derived.Test.YtpddppipjlagfaaPrx19
import Derived.Test.YtpddppipjlagfaaPrx20
import Derived.Test.YtpddppipjlagfaaLinGiven
import Derived.Test.YtpddppipjlagfaaPrx33
import Derived.Test.YtpddppipjlagfaaPrx35
namespace Go.Proofs.Ytpddppipjlagfaa.Pr
open Go.RowKit Go.Proofs.YtpddppipjlagfaaW.PrintWords Go.Proofs.YtpddppipjlagfaaW.PrintLast Go.Proofs.YtpddppipjlagfaaW.PrintMore
attribute [local go_sem] max2_int min2_int max_two min_two max_three min_three max_four min_four   -- for this text's walks alone
set_option linter.unusedVariables false
set_option linter.unusedSimpArgs false

/-! ### rickyardlaw27_LinRow: function 6 -/
mutual
def rickyardlaw27_LinRow.l0 : Nat → Int → Int → List (S40) → List (S38) → Int → Option (Bool)
 | 0, _, _, _, _, _ => none
 | k + 1, x2, x7, x8, x9, x10 => if x10 < (x8.length : Int) then (if 0 ≤ x10 then (if x9.length < 4398046511104 then (rickyardlaw27_LinRow.l0 k x2 x7 x8 (x9 ++ [(⟨(rd_T40 x8 x10).f0.f0, (rd_T40 x8 x10).f0.f1, (rd_T40 x8 x10).f0.f2, (rd_T40 x8 x10).f0.f3⟩ : S38)]) (wrap64 (x10 + 1))) else (none)) else (none)) else ((model_New.f x7).bind fun bt328 => ((model_Accepts.f bt328.1 bt328.2 x9).bind fun bt332 => ((rickyardlaw27_Turned.f x8 x2).bind fun t339 => ((lin_Order.f x7 t339).bind fun bt342 => (if (bt342.2 != bt332.2.2.2) = true then (rickyardlaw27_LinRow.j1 k t339 bt342.1 true) else (if (bt342.1.length : Int) = (x8.length : Int) then (rickyardlaw27_LinRow.j1 k t339 bt342.1 false) else (rickyardlaw27_LinRow.j1 k t339 bt342.1 bt332.2.2.2)))))))
def rickyardlaw27_LinRow.j1 : Nat → List (S40) → List Int → Bool → Option (Bool)
 | 0, _, _, _ => none
 | k + 1, x14, x15, x67 => if x67 = true then (some false) else (rickyardlaw27_LinRow.l1 k x14 x15 1)
def rickyardlaw27_LinRow.l1 : Nat → List (S40) → List Int → Int → Option (Bool)
 | 0, _, _, _ => none
 | k + 1, x14, x15, x17 => if x17 < (x15.length : Int) then (if 0 ≤ x17 then (if 0 ≤ (rd x15 x17) then (if (rd x15 x17) < (x14.length : Int) then (if 0 ≤ (wrap64 (x17 - 1)) then (if (wrap64 (x17 - 1)) < (x15.length : Int) then (if 0 ≤ (rd x15 (wrap64 (x17 - 1))) then (if (rd x15 (wrap64 (x17 - 1))) < (x14.length : Int) then (if ((rd_T40 x14 (rd x15 x17)).f1) ≤ ((rd_T40 x14 (rd x15 (wrap64 (x17 - 1)))).f2) then (some false) else (rickyardlaw27_LinRow.l1 k x14 x15 (wrap64 (x17 + 1)))) else (none)) else (none)) else (none)) else (none)) else (none)) else (none)) else (none)) else ((rickyardlaw27_awake.f).bind fun t350 => (some t350))
end
def rickyardlaw27_LinRow.f (k : Nat) (a0 : Int) (l1 : List Int) (a2 : Int) : Option (Bool) := (rickyardlaw27_Ops.f k (Int.tmod (wrap64 (a0)) 2049) l1 ([] : List Int)).bind fun t321 => (rickyardlaw27_LinRow.l0 k a2 (Int.tmod (wrap64 (a0)) 2049) t321 ([] : List (S38)) 0)
theorem rickyardlaw27_LinRow.mono_l : ∀ k, (∀ y0 y1 y2 y3 y4, LeO (rickyardlaw27_LinRow.l0 k y0 y1 y2 y3 y4) (rickyardlaw27_LinRow.l0 (k + 1) y0 y1 y2 y3 y4)) ∧ (∀ y0 y1 y2, LeO (rickyardlaw27_LinRow.j1 k y0 y1 y2) (rickyardlaw27_LinRow.j1 (k + 1) y0 y1 y2)) ∧ (∀ y0 y1 y2, LeO (rickyardlaw27_LinRow.l1 k y0 y1 y2) (rickyardlaw27_LinRow.l1 (k + 1) y0 y1 y2))
 | 0 => ⟨fun _ _ _ _ _ r h => by simp [rickyardlaw27_LinRow.l0] at h, fun _ _ _ r h => by simp [rickyardlaw27_LinRow.j1] at h, fun _ _ _ r h => by simp [rickyardlaw27_LinRow.l1] at h⟩
 | k + 1 => by
  obtain ⟨ih0, ih1, ih2⟩ := rickyardlaw27_LinRow.mono_l k
  refine ⟨?_, ?_, ?_⟩
  ·intro y0 y1 y2 y3 y4
   unfold rickyardlaw27_LinRow.l0
   repeat' first
   | (with_reducible exact ih0 _ _ _ _ _)
   | (with_reducible exact ih1 _ _ _)
   | (with_reducible exact ih2 _ _ _)
   | (with_reducible exact rickyardlaw27_Ops.mono _ _ _ _)
   | (with_reducible exact LeO.refl _)
   | (with_reducible exact LeO.none _)
   | (with_reducible refine LeO.ite ?_ ?_)
   | (with_reducible refine LeO.bind ?_ (fun _ => ?_))
   | exact ih0 _ _ _ _ _
   | exact ih1 _ _ _
   | exact ih2 _ _ _
   | exact rickyardlaw27_Ops.mono _ _ _ _
   | exact LeO.none _
   | refine LeO.ite ?_ ?_
   | refine LeO.bind ?_ (fun _ => ?_)
  ·intro y0 y1 y2
   unfold rickyardlaw27_LinRow.j1
   repeat' first
   | (with_reducible exact ih0 _ _ _ _ _)
   | (with_reducible exact ih1 _ _ _)
   | (with_reducible exact ih2 _ _ _)
   | (with_reducible exact rickyardlaw27_Ops.mono _ _ _ _)
   | (with_reducible exact LeO.refl _)
   | (with_reducible exact LeO.none _)
   | (with_reducible refine LeO.ite ?_ ?_)
   | (with_reducible refine LeO.bind ?_ (fun _ => ?_))
   | exact ih0 _ _ _ _ _
   | exact ih1 _ _ _
   | exact ih2 _ _ _
   | exact rickyardlaw27_Ops.mono _ _ _ _
   | exact LeO.none _
   | refine LeO.ite ?_ ?_
   | refine LeO.bind ?_ (fun _ => ?_)
  ·intro y0 y1 y2
   unfold rickyardlaw27_LinRow.l1
   repeat' first
   | (with_reducible exact ih0 _ _ _ _ _)
   | (with_reducible exact ih1 _ _ _)
   | (with_reducible exact ih2 _ _ _)
   | (with_reducible exact rickyardlaw27_Ops.mono _ _ _ _)
   | (with_reducible exact LeO.refl _)
   | (with_reducible exact LeO.none _)
   | (with_reducible refine LeO.ite ?_ ?_)
   | (with_reducible refine LeO.bind ?_ (fun _ => ?_))
   | exact ih0 _ _ _ _ _
   | exact ih1 _ _ _
   | exact ih2 _ _ _
   | exact rickyardlaw27_Ops.mono _ _ _ _
   | exact LeO.none _
   | refine LeO.ite ?_ ?_
   | refine LeO.bind ?_ (fun _ => ?_)
theorem rickyardlaw27_LinRow.mono : ∀ a0 a1 a2 k, LeO (rickyardlaw27_LinRow.f k a0 a1 a2) (rickyardlaw27_LinRow.f (k + 1) a0 a1 a2) := by
 intro a0 a1 a2 k
 obtain ⟨ih0, ih1, ih2⟩ := rickyardlaw27_LinRow.mono_l k
 unfold rickyardlaw27_LinRow.f
 repeat' first
   | (with_reducible exact ih0 _ _ _ _ _)
   | (with_reducible exact ih1 _ _ _)
   | (with_reducible exact ih2 _ _ _)
   | (with_reducible exact rickyardlaw27_Ops.mono _ _ _ _)
   | (with_reducible exact LeO.refl _)
   | (with_reducible exact LeO.none _)
   | (with_reducible refine LeO.ite ?_ ?_)
   | (with_reducible refine LeO.bind ?_ (fun _ => ?_))
   | exact ih0 _ _ _ _ _
   | exact ih1 _ _ _
   | exact ih2 _ _ _
   | exact rickyardlaw27_Ops.mono _ _ _ _
   | exact LeO.none _
   | refine LeO.ite ?_ ?_
   | refine LeO.bind ?_ (fun _ => ?_)
set_option maxHeartbeats 8000000 in
set_option maxRecDepth 100000 in
theorem rickyardlaw27_LinRow.calls (k : Nat) (a0 : Int) (A1 : Option Addr) (c1 : Nat) (l1 : List Int) (a2 : Int) (r : Bool) (w : World) (hr1 : Kd.C (Kd.int .u8) w A1 l1.length l1) (hc1 : l1.length ≤ c1) (h : rickyardlaw27_LinRow.f k a0 l1 a2 = some r) :
  Calls Try.prog 6 #[.int .u16 a0, .slice A1 l1.length c1, .int .u8 a2] w fun e w' => e = .returned (.bool r) ∧ Below w.heap.size w w' := by
 have hu38 := Try.underlying38
 have hu43 := Try.underlying43
 have HR1 := Aside0.mk hr1
 have HC1 := Aside0.mk hc1
 clear hr1 hc1
 have HB := Aside0.mk (Below.refl w.heap.size w)
 have H : ((rickyardlaw27_Ops.f k (Int.tmod (wrap64 (a0)) 2049) l1 ([] : List Int)).bind fun t321 => (rickyardlaw27_LinRow.l0 k a2 (Int.tmod (wrap64 (a0)) 2049) t321 ([] : List (S38)) 0)) = some r := h
 clear h
 replace H := Option.bind_eq_some_iff.mp H
 obtain ⟨t321, A40, H⟩ := H
 replace H : (rickyardlaw27_LinRow.l0 k a2 (Int.tmod (wrap64 (a0)) 2049) t321 ([] : List (S38)) 0) = some r := H
 have A4 := Aside0.mk A40
 clear A40
 have H' := Aside0.mk H
 clear H
 go_enter Try.func6, Try.ntmps6
 go_wp2_with (first | (go_at_call 12; (refine (rickyardlaw27_Ops.calls k (Int.tmod (wrap64 (a0)) 2049) _ _ l1 _ _ ([] : List Int) t321 _ ?side1 ?side2 ?side3 ?side4 A4.out).mono ?_); (case side1 => repeat (first | exact HR1.out | (with_reducible refine Kd.C_alloc ?_ _) | (with_reducible refine Kd.C_drewN ?_ _) | (with_reducible refine Kd.C_drew ?_))); (case side2 => exact HC1.out); (case side3 => exact Kd.C_nil _ _); (case side4 => exact Nat.le_refl _); rintro e w5 ⟨v322, rfl, ho0, hb⟩; have n0_ := Aside0.mk (Kd.R_lower ho0 (below_size (by repeat (first | (with_reducible first | exact HB.out | apply below_alloc | apply pw_below_drewN | apply below_drew1) | exact HB.out)))); have n1_ := Aside0.mk (below_step (by repeat (first | (with_reducible first | exact HB.out | apply below_alloc | apply pw_below_drewN | apply below_drew1) | exact HB.out)) hb); clear HB; have HO323 := n0_; have HB := n1_; clear n0_ n1_; (try clear hb); (try clear hb2); (try clear hk); (try clear hi); (try clear ho0)))
 repeat (go_quiet (first | (go_at_call 12; (refine (rickyardlaw27_Ops.calls k (Int.tmod (wrap64 (a0)) 2049) _ _ l1 _ _ ([] : List Int) t321 _ ?side1 ?side2 ?side3 ?side4 A4.out).mono ?_); (case side1 => repeat (first | exact HR1.out | (with_reducible refine Kd.C_alloc ?_ _) | (with_reducible refine Kd.C_drewN ?_ _) | (with_reducible refine Kd.C_drew ?_))); (case side2 => exact HC1.out); (case side3 => exact Kd.C_nil _ _); (case side4 => exact Nat.le_refl _); rintro e w5 ⟨v322, rfl, ho0, hb⟩; have n0_ := Aside0.mk (Kd.R_lower ho0 (below_size (by repeat (first | (with_reducible first | exact HB.out | apply below_alloc | apply pw_below_drewN | apply below_drew1) | exact HB.out)))); have n1_ := Aside0.mk (below_step (by repeat (first | (with_reducible first | exact HB.out | apply below_alloc | apply pw_below_drewN | apply below_drew1) | exact HB.out)) hb); clear HB; have HO323 := n0_; have HB := n1_; clear n0_ n1_; (try clear hb); (try clear hb2); (try clear hk); (try clear hi); (try clear ho0))); try go_wp2_with (first | (go_at_call 12; (refine (rickyardlaw27_Ops.calls k (Int.tmod (wrap64 (a0)) 2049) _ _ l1 _ _ ([] : List Int) t321 _ ?side1 ?side2 ?side3 ?side4 A4.out).mono ?_); (case side1 => repeat (first | exact HR1.out | (with_reducible refine Kd.C_alloc ?_ _) | (with_reducible refine Kd.C_drewN ?_ _) | (with_reducible refine Kd.C_drew ?_))); (case side2 => exact HC1.out); (case side3 => exact Kd.C_nil _ _); (case side4 => exact Nat.le_refl _); rintro e w5 ⟨v322, rfl, ho0, hb⟩; have n0_ := Aside0.mk (Kd.R_lower ho0 (below_size (by repeat (first | (with_reducible first | exact HB.out | apply below_alloc | apply pw_below_drewN | apply below_drew1) | exact HB.out)))); have n1_ := Aside0.mk (below_step (by repeat (first | (with_reducible first | exact HB.out | apply below_alloc | apply pw_below_drewN | apply below_drew1) | exact HB.out)) hb); clear HB; have HO323 := n0_; have HB := n1_; clear n0_ n1_; (try clear hb); (try clear hb2); (try clear hk); (try clear hi); (try clear ho0))))
 go_loopg [9, 10] k (fun kq v9 v10 w' => ∃ (x9_1 : List (S38)) (x10_1 : Int), v10 = .int .i64 x10_1 ∧ Aside0 (rickyardlaw27_LinRow.l0 kq a2 (Int.tmod (wrap64 (a0)) 2049) t321 x9_1 x10_1 = some r) ∧ Aside0 (kq ≤ k) ∧ Aside0 (Kd.R k40 40 w' w.heap.size (fun _ => True) v322 t321) ∧ Aside0 (Kd.R k38 38 w' w.heap.size (fun _ => True) v9 x9_1) ∧ Aside0 (Below w.heap.size w w'))
 case atStart => exact ⟨(([] : List (S38))), (0), (by first | rfl | (simp; done) | (simp [*]; done)), H', ⟨Nat.le_refl _⟩, ⟨by (with_reducible repeat (first | apply Kd.R_alloc | apply Kd.R_drewN | apply Kd.R_drew)); exact HO323.out⟩, ⟨by first | exact Kd.R_nil _ _ _ _ _ | exact Kd.N_nil _ _ _ _ _ | exact Kd.V_nil _ _ _ _ _ | exact Kd.Q_nil _ _ _ _ _ | exact Kd.S_nil _ _ _ _ _⟩, ⟨by repeat (first | (with_reducible first | exact HB.out | apply below_alloc | apply pw_below_drewN | apply below_drew1) | exact HB.out)⟩⟩
 case round =>
  clear H'
  try clear c1
  try clear p2
  obtain ⟨x9_1, x10_1, rfl, HA, HK1, HO_8, HO_9, HB⟩ := hrel
  cases gk with
  | zero => exact absurd HA.out (by simp [rickyardlaw27_LinRow.l0])
  | succ k1 =>
   have H := HA.out
   clear HA
   simp only [rickyardlaw27_LinRow.l0] at H
   by_cases c6 : x10_1 < (t321.length : Int)
   ·rw [if_pos c6] at H
    have c6b0 : decide (x10_1 < (t321.length : Int)) = true := decide_eq_true c6
    clear c6
    by_cases c7 : 0 ≤ x10_1
    ·rw [if_pos c7] at H
     have c7b0 : decide (0 ≤ x10_1) = true := decide_eq_true c7
     clear c7
     by_cases c8 : x9_1.length < 4398046511104
     ·rw [if_pos c8] at H
      have LMc8 := Aside0.mk c8
      clear c8
      obtain ⟨y325, hy325⟩ : ∃ y_ : List (S38), y_ = (x9_1 ++ [(⟨(rd_T40 t321 x10_1).f0.f0, (rd_T40 t321 x10_1).f0.f1, (rd_T40 t321 x10_1).f0.f2, (rd_T40 t321 x10_1).f0.f3⟩ : S38)]) := ⟨_, rfl⟩
      replace H : (rickyardlaw27_LinRow.l0 k1 a2 (Int.tmod (wrap64 (a0)) 2049) t321 y325 (wrap64 (x10_1 + 1))) = some r := by first | (rw [hy325]; with_reducible exact H) | (have H2_ := (Option.bind_some _ _).symm.trans H; rw [hy325]; with_reducible exact H2_) | (have H2_ := (Option.bind_some _ _).symm.trans H; with_reducible exact H2_) | with_reducible exact H | (rw [hy325]; exact H) | exact H
      have Ny325 := Aside0.mk hy325
      clear hy325
      have H' := Aside0.mk H
      clear H
      obtain ⟨Ao9, co9, eo9⟩ := Kd.R_slice HO_8.out
      subst eo9
      have p324 : 0 ≤ (x10_1 : Int) := of_decide_eq_true (by first | (with_reducible assumption) | assumption)
      have q324 : x10_1 < (t321.length : Int) := of_decide_eq_true (by first | (with_reducible assumption) | assumption)
      obtain ⟨ad324, e324, hx324_0, hx324_1, hx324_2, hx324_3, hx324_4, hx324_5⟩ := at_T40 (Kd.R_reads' HO_8.out).2.2 x10_1 p324 q324
      cases e324
      replace p324 := eq_true p324
      replace q324 := eq_true q324
      go_wp2_with (first | ((with_reducible refine gate_builtin (b := .append) (xs := #[.tmp 30, .tmp 36]) rfl ?_); (try (refine gate_guard (by rfl) ?_; dsimp only)); at_builtin; refine Kd.R_append k38 (w0 := w) w.heap.size rfl (.tmp 30) (.tmp 36) 35 38 (.agg #[(.int .i64 0), (.int .i64 0), (.int .i64 0), (.int .i64 0)]) 32 rfl Try.underlying35 info38 rfl (by decide) (by omega) u9 x9_1 (⟨(rd_T40 t321 x10_1).f0.f0, (rd_T40 t321 x10_1).f0.f1, (rd_T40 t321 x10_1).f0.f2, (rd_T40 t321 x10_1).f0.f3⟩ : S38) [.int .i64 ((rd_T40 t321 x10_1).f0.f0), .int .i64 ((rd_T40 t321 x10_1).f0.f1), .int .i64 ((rd_T40 t321 x10_1).f0.f2), .int .i64 ((rd_T40 t321 x10_1).f0.f3)] (fun _ => True) (fun _ => False) rfl rfl ?aP (fun _ hk => hk.elim) ?aF ?aO ?aB ?aS ?aL ?_; (case aP => exact k38_mkM _ _ _ (⟨(rd_T40 t321 x10_1).f0.f0, (rd_T40 t321 x10_1).f0.f1, (rd_T40 t321 x10_1).f0.f2, (rd_T40 t321 x10_1).f0.f3⟩ : S38)); (case aB => exact (by repeat (first | (with_reducible first | exact HB.out | apply below_alloc | apply pw_below_drewN | apply below_drew1) | exact HB.out))); (case aF => exact (fun _ _ => trivial)); (case aO => exact (by (with_reducible repeat (first | apply Kd.R_alloc | apply Kd.R_drewN | apply Kd.R_drew)); exact HO_9.out)); (case aS => exact (below_size (by repeat (first | (with_reducible first | exact HB.out | apply below_alloc | apply pw_below_drewN | apply below_drew1) | exact HB.out)))); (case aL => have := LMc8.out; omega); intro v326 w10 ho hb hg hat; rw [← Ny325.out] at ho; have n0_ := Aside0.mk (Kd.R_over' (by (with_reducible repeat (first | apply Kd.R_alloc | apply Kd.R_drewN | apply Kd.R_drew)); exact HO_8.out) (Kd.R_typed (by (with_reducible repeat (first | apply Kd.R_alloc | apply Kd.R_drewN | apply Kd.R_drew)); exact HO_9.out)) (by decide) hg); have n1_ := Aside0.mk (hb); have n2_ := Aside0.mk (ho); clear HO_8; clear HB; clear HO_9; have HO_8 := n0_; have HB := n1_; have HO327 := n2_; clear n0_ n1_ n2_; clear ho hb hg hat))
      repeat (go_quiet (first | ((with_reducible refine gate_builtin (b := .append) (xs := #[.tmp 30, .tmp 36]) rfl ?_); (try (refine gate_guard (by rfl) ?_; dsimp only)); at_builtin; refine Kd.R_append k38 (w0 := w) w.heap.size rfl (.tmp 30) (.tmp 36) 35 38 (.agg #[(.int .i64 0), (.int .i64 0), (.int .i64 0), (.int .i64 0)]) 32 rfl Try.underlying35 info38 rfl (by decide) (by omega) u9 x9_1 (⟨(rd_T40 t321 x10_1).f0.f0, (rd_T40 t321 x10_1).f0.f1, (rd_T40 t321 x10_1).f0.f2, (rd_T40 t321 x10_1).f0.f3⟩ : S38) [.int .i64 ((rd_T40 t321 x10_1).f0.f0), .int .i64 ((rd_T40 t321 x10_1).f0.f1), .int .i64 ((rd_T40 t321 x10_1).f0.f2), .int .i64 ((rd_T40 t321 x10_1).f0.f3)] (fun _ => True) (fun _ => False) rfl rfl ?aP (fun _ hk => hk.elim) ?aF ?aO ?aB ?aS ?aL ?_; (case aP => exact k38_mkM _ _ _ (⟨(rd_T40 t321 x10_1).f0.f0, (rd_T40 t321 x10_1).f0.f1, (rd_T40 t321 x10_1).f0.f2, (rd_T40 t321 x10_1).f0.f3⟩ : S38)); (case aB => exact (by repeat (first | (with_reducible first | exact HB.out | apply below_alloc | apply pw_below_drewN | apply below_drew1) | exact HB.out))); (case aF => exact (fun _ _ => trivial)); (case aO => exact (by (with_reducible repeat (first | apply Kd.R_alloc | apply Kd.R_drewN | apply Kd.R_drew)); exact HO_9.out)); (case aS => exact (below_size (by repeat (first | (with_reducible first | exact HB.out | apply below_alloc | apply pw_below_drewN | apply below_drew1) | exact HB.out)))); (case aL => have := LMc8.out; omega); intro v326 w10 ho hb hg hat; rw [← Ny325.out] at ho; have n0_ := Aside0.mk (Kd.R_over' (by (with_reducible repeat (first | apply Kd.R_alloc | apply Kd.R_drewN | apply Kd.R_drew)); exact HO_8.out) (Kd.R_typed (by (with_reducible repeat (first | apply Kd.R_alloc | apply Kd.R_drewN | apply Kd.R_drew)); exact HO_9.out)) (by decide) hg); have n1_ := Aside0.mk (hb); have n2_ := Aside0.mk (ho); clear HO_8; clear HB; clear HO_9; have HO_8 := n0_; have HB := n1_; have HO327 := n2_; clear n0_ n1_ n2_; clear ho hb hg hat)); try go_wp2_with (first | ((with_reducible refine gate_builtin (b := .append) (xs := #[.tmp 30, .tmp 36]) rfl ?_); (try (refine gate_guard (by rfl) ?_; dsimp only)); at_builtin; refine Kd.R_append k38 (w0 := w) w.heap.size rfl (.tmp 30) (.tmp 36) 35 38 (.agg #[(.int .i64 0), (.int .i64 0), (.int .i64 0), (.int .i64 0)]) 32 rfl Try.underlying35 info38 rfl (by decide) (by omega) u9 x9_1 (⟨(rd_T40 t321 x10_1).f0.f0, (rd_T40 t321 x10_1).f0.f1, (rd_T40 t321 x10_1).f0.f2, (rd_T40 t321 x10_1).f0.f3⟩ : S38) [.int .i64 ((rd_T40 t321 x10_1).f0.f0), .int .i64 ((rd_T40 t321 x10_1).f0.f1), .int .i64 ((rd_T40 t321 x10_1).f0.f2), .int .i64 ((rd_T40 t321 x10_1).f0.f3)] (fun _ => True) (fun _ => False) rfl rfl ?aP (fun _ hk => hk.elim) ?aF ?aO ?aB ?aS ?aL ?_; (case aP => exact k38_mkM _ _ _ (⟨(rd_T40 t321 x10_1).f0.f0, (rd_T40 t321 x10_1).f0.f1, (rd_T40 t321 x10_1).f0.f2, (rd_T40 t321 x10_1).f0.f3⟩ : S38)); (case aB => exact (by repeat (first | (with_reducible first | exact HB.out | apply below_alloc | apply pw_below_drewN | apply below_drew1) | exact HB.out))); (case aF => exact (fun _ _ => trivial)); (case aO => exact (by (with_reducible repeat (first | apply Kd.R_alloc | apply Kd.R_drewN | apply Kd.R_drew)); exact HO_9.out)); (case aS => exact (below_size (by repeat (first | (with_reducible first | exact HB.out | apply below_alloc | apply pw_below_drewN | apply below_drew1) | exact HB.out)))); (case aL => have := LMc8.out; omega); intro v326 w10 ho hb hg hat; rw [← Ny325.out] at ho; have n0_ := Aside0.mk (Kd.R_over' (by (with_reducible repeat (first | apply Kd.R_alloc | apply Kd.R_drewN | apply Kd.R_drew)); exact HO_8.out) (Kd.R_typed (by (with_reducible repeat (first | apply Kd.R_alloc | apply Kd.R_drewN | apply Kd.R_drew)); exact HO_9.out)) (by decide) hg); have n1_ := Aside0.mk (hb); have n2_ := Aside0.mk (ho); clear HO_8; clear HB; clear HO_9; have HO_8 := n0_; have HB := n1_; have HO327 := n2_; clear n0_ n1_ n2_; clear ho hb hg hat)))
      go_roundg k1
      case measure => have := HK1.out; omega
      case rel => exact ⟨(y325), (wrap64 (x10_1 + 1)), (by first | rfl | (simp; done) | (simp [*]; done)), H', ⟨by have := HK1.out; omega⟩, ⟨by (with_reducible repeat (first | apply Kd.R_alloc | apply Kd.R_drewN | apply Kd.R_drew)); exact HO_8.out⟩, ⟨by (with_reducible repeat (first | apply Kd.R_alloc | apply Kd.R_drewN | apply Kd.R_drew)); exact HO327.out⟩, ⟨by repeat (first | (with_reducible first | exact HB.out | apply below_alloc | apply pw_below_drewN | apply below_drew1) | exact HB.out)⟩⟩
     ·rw [if_neg c8] at H
      exact absurd H (by simp)
    ·rw [if_neg c7] at H
     exact absurd H (by simp)
   ·rw [if_neg c6] at H
    have c6b0 : decide (x10_1 < (t321.length : Int)) = false := decide_eq_false c6
    clear c6
    replace H := Option.bind_eq_some_iff.mp H
    obtain ⟨⟨t328, t329⟩, A110, H⟩ := H
    replace H : ((model_Accepts.f t328 t329 x9_1).bind fun bt332 => ((rickyardlaw27_Turned.f t321 a2).bind fun t339 => ((lin_Order.f (Int.tmod (wrap64 (a0)) 2049) t339).bind fun bt342 => (if (bt342.2 != bt332.2.2.2) = true then (rickyardlaw27_LinRow.j1 k1 t339 bt342.1 true) else (if (bt342.1.length : Int) = (t321.length : Int) then (rickyardlaw27_LinRow.j1 k1 t339 bt342.1 false) else (rickyardlaw27_LinRow.j1 k1 t339 bt342.1 bt332.2.2.2)))))) = some r := H
    have A11 := Aside0.mk A110
    clear A110
    replace H := Option.bind_eq_some_iff.mp H
    obtain ⟨⟨t332, t333, t336, t337⟩, A120, H⟩ := H
    replace H : ((rickyardlaw27_Turned.f t321 a2).bind fun t339 => ((lin_Order.f (Int.tmod (wrap64 (a0)) 2049) t339).bind fun bt342 => (if (bt342.2 != t337) = true then (rickyardlaw27_LinRow.j1 k1 t339 bt342.1 true) else (if (bt342.1.length : Int) = (t321.length : Int) then (rickyardlaw27_LinRow.j1 k1 t339 bt342.1 false) else (rickyardlaw27_LinRow.j1 k1 t339 bt342.1 t337))))) = some r := H
    have A12 := Aside0.mk A120
    clear A120
    replace H := Option.bind_eq_some_iff.mp H
    obtain ⟨t339, A130, H⟩ := H
    replace H : ((lin_Order.f (Int.tmod (wrap64 (a0)) 2049) t339).bind fun bt342 => (if (bt342.2 != t337) = true then (rickyardlaw27_LinRow.j1 k1 t339 bt342.1 true) else (if (bt342.1.length : Int) = (t321.length : Int) then (rickyardlaw27_LinRow.j1 k1 t339 bt342.1 false) else (rickyardlaw27_LinRow.j1 k1 t339 bt342.1 t337)))) = some r := H
    have A13 := Aside0.mk A130
    clear A130
    replace H := Option.bind_eq_some_iff.mp H
    obtain ⟨⟨t342, t343⟩, A140, H⟩ := H
    replace H : (if (t343 != t337) = true then (rickyardlaw27_LinRow.j1 k1 t339 t342 true) else (if (t342.length : Int) = (t321.length : Int) then (rickyardlaw27_LinRow.j1 k1 t339 t342 false) else (rickyardlaw27_LinRow.j1 k1 t339 t342 t337))) = some r := H
    have A14 := Aside0.mk A140
    clear A140
    have HC15 := Aside0.mk H
    clear H
    obtain ⟨Ao16, co16, eo16⟩ := Kd.R_slice HO_8.out
    subst eo16
    go_upto_region 11 with (first | (go_at_call 17; (with_reducible refine (model_New.calls (Int.tmod (wrap64 (a0)) 2049) t328 t329 _ A11.out).mono ?_); rintro e w17 ⟨v330, rfl, ho0, hb⟩; have n0_ := Aside0.mk (Kd.R_below (by (with_reducible repeat (first | apply Kd.R_alloc | apply Kd.R_drewN | apply Kd.R_drew)); exact HO_8.out) hb); have n1_ := Aside0.mk (Kd.R_below (by (with_reducible repeat (first | apply Kd.R_alloc | apply Kd.R_drewN | apply Kd.R_drew)); exact HO_9.out) hb); have n2_ := Aside0.mk (Kd.R_lower ho0 (below_size (by repeat (first | (with_reducible first | exact HB.out | apply below_alloc | apply pw_below_drewN | apply below_drew1) | exact HB.out)))); have n3_ := Aside0.mk (below_step (by repeat (first | (with_reducible first | exact HB.out | apply below_alloc | apply pw_below_drewN | apply below_drew1) | exact HB.out)) hb); clear HO_8; clear HO_9; clear HB; have HO_8 := n0_; have HO_9 := n1_; have HO331 := n2_; have HB := n3_; clear n0_ n1_ n2_ n3_; (try clear hb); (try clear hb2); (try clear hk); (try clear hi); (try clear ho0); obtain ⟨Ao18, co18, eo18⟩ := Kd.R_slice HO331.out; subst eo18; obtain ⟨Ao19, co19, eo19⟩ := Kd.R_slice HO_9.out; subst eo19) | (go_at_call 16; (with_reducible refine (model_Accepts.calls t328 _ _ t329 _ _ x9_1 t332 t333 t336 t337 _ ?side1 ?side2 ?side3 ?side4 A12.out).mono ?_); (case side1 => repeat (first | exact (Kd.R_reads' HO331.out).2.2 | (with_reducible refine Kd.C_alloc ?_ _) | (with_reducible refine Kd.C_drewN ?_ _) | (with_reducible refine Kd.C_drew ?_))); (case side2 => exact (Kd.R_reads' HO331.out).2.1); (case side3 => repeat (first | exact (Kd.R_reads' HO_9.out).2.2 | (with_reducible refine Kd.C_alloc ?_ _) | (with_reducible refine Kd.C_drewN ?_ _) | (with_reducible refine Kd.C_drew ?_))); (case side4 => exact (Kd.R_reads' HO_9.out).2.1); rintro e w20 ⟨v334, rfl, ho0, hb⟩; have n0_ := Aside0.mk (Kd.R_below (by (with_reducible repeat (first | apply Kd.R_alloc | apply Kd.R_drewN | apply Kd.R_drew)); exact HO_8.out) hb); have n1_ := Aside0.mk (Kd.R_below (by (with_reducible repeat (first | apply Kd.R_alloc | apply Kd.R_drewN | apply Kd.R_drew)); exact HO_9.out) hb); have n2_ := Aside0.mk (Kd.R_below (by (with_reducible repeat (first | apply Kd.R_alloc | apply Kd.R_drewN | apply Kd.R_drew)); exact HO331.out) hb); have n3_ := Aside0.mk (Kd.V_lower (Kd.V_mono (ok' := fun k_ => some k_ ≠ (.slice Ao16 t321.length co16 : Value).ownBlock ∧ some k_ ≠ (.slice Ao19 x9_1.length co19 : Value).ownBlock ∧ some k_ ≠ (.slice Ao18 t329.length co18 : Value).ownBlock) ho0 (fun k_ hk_ => ⟨(Kd.fresh' (Kd.R_lt (by (with_reducible repeat (first | apply Kd.R_alloc | apply Kd.R_drewN | apply Kd.R_drew)); exact HO_8.out)) k_ hk_), (Kd.fresh' (Kd.R_lt (by (with_reducible repeat (first | apply Kd.R_alloc | apply Kd.R_drewN | apply Kd.R_drew)); exact HO_9.out)) k_ hk_), (Kd.fresh' (Kd.R_lt (by (with_reducible repeat (first | apply Kd.R_alloc | apply Kd.R_drewN | apply Kd.R_drew)); exact HO331.out)) k_ hk_)⟩)) (below_size (by repeat (first | (with_reducible first | exact HB.out | apply below_alloc | apply pw_below_drewN | apply below_drew1) | exact HB.out)))); have n4_ := Aside0.mk (below_step (by repeat (first | (with_reducible first | exact HB.out | apply below_alloc | apply pw_below_drewN | apply below_drew1) | exact HB.out)) hb); clear HO_8; clear HO_9; clear HO331; clear HB; have HO_8 := n0_; have HO_9 := n1_; have HO331 := n2_; have HO335 := n3_; have HB := n4_; clear n0_ n1_ n2_ n3_ n4_; (try clear hb); (try clear hb2); (try clear hk); (try clear hi); (try clear ho0)) | ((with_reducible refine gate_dst (N := 11) rfl ?_); (try (refine gate_guard (by rfl) ?_; dsimp only)); refine box_event ?hg (N := 11) ?hd (cs := #[.int .i64 0, .slice none 0 0]) (t := 43) ?hr ?_; (case hd => rfl); (case hg => rfl); (case hr => first | (go_simp; done) | (go_simp; rfl)); intro gb338 hg w21 hbox hb; have n0_ := Aside0.mk (Kd.R_below (by (with_reducible repeat (first | apply Kd.R_alloc | apply Kd.R_drewN | apply Kd.R_drew)); exact HO_8.out) hb); have n1_ := Aside0.mk (Kd.R_below (by (with_reducible repeat (first | apply Kd.R_alloc | apply Kd.R_drewN | apply Kd.R_drew)); exact HO_9.out) hb); have n2_ := Aside0.mk (Kd.R_below (by (with_reducible repeat (first | apply Kd.R_alloc | apply Kd.R_drewN | apply Kd.R_drew)); exact HO331.out) hb); have n3_ := Aside0.mk (Kd.V_below (Kd.V_elderB (by (with_reducible repeat (first | apply Kd.V_alloc | apply Kd.V_drewN | apply Kd.V_drew)); exact HO335.out) gb338 (Nat.le_of_eq hg.symm)) hb); have n4_ := Aside0.mk (below_step (by repeat (first | (with_reducible first | exact HB.out | apply below_alloc | apply pw_below_drewN | apply below_drew1) | exact HB.out)) hb); have n5_ := Aside0.mk (hbox); have n6_ := Aside0.mk ((by rw [hg]; exact (below_size (by repeat (first | (with_reducible first | exact HB.out | apply below_alloc | apply pw_below_drewN | apply below_drew1) | exact HB.out))) : w.heap.size ≤ gb338)); have n7_ := Aside0.mk ((by rw [hg]; exact (below_size (by repeat (first | (with_reducible first | exact HB.out | apply below_alloc | apply pw_below_drewN | apply below_drew1) | exact HB.out))) : w.heap.size ≤ gb338)); clear HO_8; clear HO_9; clear HO331; clear HO335; clear HB; have HO_8 := n0_; have HO_9 := n1_; have HO331 := n2_; have HO335 := n3_; have HB := n4_; have BK338 := n5_; have GW338 := n6_; have GE338 := n7_; clear n0_ n1_ n2_ n3_ n4_ n5_ n6_ n7_; clear hb hbox hg; have hcz22_0 : w21.cell? ⟨gb338, 0, none⟩ = some (.int .i64 0) := (blk_cell BK338.out 0).trans rfl; have hcz22_1 : w21.cell? ⟨gb338, 1, none⟩ = some (.slice none 0 0) := (blk_cell BK338.out 1).trans rfl; have hfz22_0 := blk_frozen BK338.out 0; have hfz22_1 := blk_frozen BK338.out 1; obtain ⟨Ao23, co23, eo23⟩ := Kd.V_slice HO335.out; subst eo23) | ((with_reducible refine gate_store (t := 43) (p := 11) rfl ?_); (try (rw [drewN_self w21]; generalize hq_ : World.drewN w21 _ = w21; have n0_ := Aside0.mk (Kd.R_at hq_ HO_8.out); have n1_ := Aside0.mk (Kd.R_at hq_ HO_9.out); have n2_ := Aside0.mk (Kd.R_at hq_ HO331.out); have n3_ := Aside0.mk (Kd.V_at hq_ HO335.out); have n4_ := Aside0.mk (blk_at hq_ BK338.out); have n5_ := Aside0.mk (below_at hq_ HB.out); clear hq_ HO_8 HO_9 HO331 HO335 BK338 HB; have HO_8 := n0_; have HO_9 := n1_; have HO331 := n2_; have HO335 := n3_; have BK338 := n4_; have HB := n5_; clear n0_ n1_ n2_ n3_ n4_ n5_)); refine store_event (t := 43) (p := 11) (v := ?vo_w24) (w1 := ((w21.setCell ⟨gb338, 0, none⟩ (.int .i64 t332)).setCell ⟨gb338, 1, none⟩ (.slice Ao23 t333.length co23))) ?hg ?ho ?hn ?hr ?_; (case ho => rfl); (case hg => rfl); (case hn => rfl); (case hr => first | (go_simp; done) | (go_simp; rfl)); intro w24 hw; have n0_ : Aside0 (Kd.R k40 40 w24 w.heap.size (fun _ => True) (.slice Ao16 t321.length co16) t321) := ⟨(by rw [hw]; exact (by (with_reducible repeat (first | apply Kd.R_alloc | apply Kd.R_drewN | apply Kd.R_drew)); exact Kd.R_mono (Kd.R_far (p := ⟨gb338, 1, none⟩) (Kd.R_far (p := ⟨gb338, 0, none⟩) (Kd.R_types HO_8.out BK338.out (by decide)) (fun _ hk => hk.2) (.int .i64 t332)) (fun _ hk => hk.2) (.slice Ao23 t333.length co23)) (fun _ hk => trivial)))⟩; have n1_ : Aside0 (Kd.R k38 38 w24 w.heap.size (fun _ => True) (.slice Ao19 x9_1.length co19) x9_1) := ⟨(by rw [hw]; exact (by (with_reducible repeat (first | apply Kd.R_alloc | apply Kd.R_drewN | apply Kd.R_drew)); exact Kd.R_mono (Kd.R_far (p := ⟨gb338, 1, none⟩) (Kd.R_far (p := ⟨gb338, 0, none⟩) (Kd.R_types HO_9.out BK338.out (by decide)) (fun _ hk => hk.2) (.int .i64 t332)) (fun _ hk => hk.2) (.slice Ao23 t333.length co23)) (fun _ hk => trivial)))⟩; have n2_ : Aside0 (Kd.R k59 59 w24 w.heap.size (fun _ => True) (.slice Ao18 t329.length co18) t329) := ⟨(by rw [hw]; exact (by (with_reducible repeat (first | apply Kd.R_alloc | apply Kd.R_drewN | apply Kd.R_drew)); exact Kd.R_mono (Kd.R_far (p := ⟨gb338, 1, none⟩) (Kd.R_far (p := ⟨gb338, 0, none⟩) (Kd.R_types HO331.out BK338.out (by decide)) (fun _ hk => hk.2) (.int .i64 t332)) (fun _ hk => hk.2) (.slice Ao23 t333.length co23)) (fun _ hk => trivial)))⟩; have n3_ : Aside0 (Kd.V k59 59 w24 w.heap.size (fun k_ => some k_ ≠ (.slice Ao16 t321.length co16 : Value).ownBlock ∧ some k_ ≠ (.slice Ao19 x9_1.length co19 : Value).ownBlock ∧ some k_ ≠ (.slice Ao18 t329.length co18 : Value).ownBlock ∧ k_ ≠ gb338) (.slice Ao23 t333.length co23) t333) := ⟨(by rw [hw]; exact (by (with_reducible repeat (first | apply Kd.V_alloc | apply Kd.V_drewN | apply Kd.V_drew)); exact Kd.V_mono (Kd.V_far (p := ⟨gb338, 1, none⟩) (Kd.V_far (p := ⟨gb338, 0, none⟩) (Kd.V_mono HO335.out (fun k_ hk => (⟨hk, hk.2⟩ : _ ∧ k_ ≠ gb338))) (fun _ hk => hk.2) (.int .i64 t332)) (fun _ hk => hk.2) (.slice Ao23 t333.length co23)) (fun _ hk => ⟨hk.1.1.1, ⟨hk.1.1.2.1, ⟨hk.1.1.2.2, hk.1.2⟩⟩⟩)))⟩; have n4_ : Aside0 (w24.heap[gb338]? = some (.cells #[.int .i64 t332, .slice Ao23 t333.length co23] 43 (0, 0))) := ⟨(by rw [hw]; exact (by (with_reducible repeat (first | refine blk_drewN ?_ _ | refine blk_drew ?_ | refine blk_alloc ?_ _)); refine blk_put (cs := #[.int .i64 t332, .slice none 0 0]) ?_ 1 _ rfl; (with_reducible repeat (first | refine blk_drewN ?_ _ | refine blk_drew ?_ | refine blk_alloc ?_ _)); refine blk_put (cs := #[.int .i64 0, .slice none 0 0]) ?_ 0 _ rfl; (with_reducible repeat (first | refine blk_drewN ?_ _ | refine blk_drew ?_ | refine blk_alloc ?_ _)); exact BK338.out))⟩; have n5_ : Aside0 (Below w.heap.size w w24) := ⟨(by rw [hw]; exact (by repeat (first | (with_reducible first | exact HB.out | apply below_alloc | apply pw_below_drewN | apply below_drew1 | refine below_set ?_ GE338.out) | exact HB.out)))⟩; clear hw; clear HO_8; clear HO_9; clear HO331; clear HO335; clear BK338; clear HB; have HO_8 := n0_; have HO_9 := n1_; have HO331 := n2_; have HO335 := n3_; have BK338 := n4_; have HB := n5_; clear n0_ n1_ n2_ n3_ n4_ n5_) | (go_at_call 11; (with_reducible refine (rickyardlaw27_Turned.calls (fun k_ => some k_ = (.slice Ao16 t321.length co16 : Value).ownBlock) _ _ t321 a2 t339 _ ?side1 A13.out).mono ?_); (case side1 => exact Kd.R_V (Kd.R_tight rfl (Kd.R_types (Kd.R_apart' (Kd.R_apart' (HO_8.out) (Kd.R_typed HO_9.out) (by decide)) (Kd.R_typed HO331.out) (by decide)) BK338.out (by decide)))); rintro e w25 ⟨v340, rfl, ho0, hb⟩; have n0_ := Aside0.mk (Kd.R_below (by (with_reducible repeat (first | apply Kd.R_alloc | apply Kd.R_drewN | apply Kd.R_drew)); exact HO_8.out) hb); have n1_ := Aside0.mk (Kd.R_below (by (with_reducible repeat (first | apply Kd.R_alloc | apply Kd.R_drewN | apply Kd.R_drew)); exact HO_9.out) hb); have n2_ := Aside0.mk (Kd.R_below (by (with_reducible repeat (first | apply Kd.R_alloc | apply Kd.R_drewN | apply Kd.R_drew)); exact HO331.out) hb); have n3_ := Aside0.mk (Kd.V_below (by (with_reducible repeat (first | apply Kd.V_alloc | apply Kd.V_drewN | apply Kd.V_drew)); exact HO335.out) hb); have n4_ := Aside0.mk (Kd.V_lower (Kd.V_mono (ok' := fun k_ => some k_ ≠ (.slice Ao19 x9_1.length co19 : Value).ownBlock ∧ some k_ ≠ (.slice Ao18 t329.length co18 : Value).ownBlock ∧ k_ ≠ gb338) ho0 (fun k_ hk_ => ⟨Or.elim hk_ (fun hs_ => ((Kd.R_types (Kd.R_apart' (Kd.R_apart' (HO_8.out) (Kd.R_typed HO_9.out) (by decide)) (Kd.R_typed HO331.out) (by decide)) BK338.out (by decide)).1 k_ hs_.symm).1.1.2) (fun hn_ => (Kd.fresh' (Kd.R_lt (by (with_reducible repeat (first | apply Kd.R_alloc | apply Kd.R_drewN | apply Kd.R_drew)); exact HO_9.out)) k_ hn_)), Or.elim hk_ (fun hs_ => ((Kd.R_types (Kd.R_apart' (Kd.R_apart' (HO_8.out) (Kd.R_typed HO_9.out) (by decide)) (Kd.R_typed HO331.out) (by decide)) BK338.out (by decide)).1 k_ hs_.symm).1.2) (fun hn_ => (Kd.fresh' (Kd.R_lt (by (with_reducible repeat (first | apply Kd.R_alloc | apply Kd.R_drewN | apply Kd.R_drew)); exact HO331.out)) k_ hn_)), Or.elim hk_ (fun hs_ => ((Kd.R_types (Kd.R_apart' (Kd.R_apart' (HO_8.out) (Kd.R_typed HO_9.out) (by decide)) (Kd.R_typed HO331.out) (by decide)) BK338.out (by decide)).1 k_ hs_.symm).2) (fun hn_ => (Kd.freshB (g := gb338) (o := .cells #[.int .i64 t332, .slice Ao23 t333.length co23] 43 (0, 0)) (by (with_reducible repeat (first | refine blk_drewN ?_ _ | refine blk_drew ?_ | refine blk_alloc ?_ _)); exact BK338.out) k_ hn_))⟩)) (below_size (by repeat (first | (with_reducible first | exact HB.out | apply below_alloc | apply pw_below_drewN | apply below_drew1 | refine below_set ?_ GE338.out) | exact HB.out)))); have n5_ := Aside0.mk (blk_below (g := gb338) (o := .cells #[.int .i64 t332, .slice Ao23 t333.length co23] 43 (0, 0)) (by (with_reducible repeat (first | refine blk_drewN ?_ _ | refine blk_drew ?_ | refine blk_alloc ?_ _)); exact BK338.out) hb); have n6_ := Aside0.mk (below_step (by repeat (first | (with_reducible first | exact HB.out | apply below_alloc | apply pw_below_drewN | apply below_drew1 | refine below_set ?_ GE338.out) | exact HB.out)) hb); clear HO_8; clear HO_9; clear HO331; clear HO335; clear BK338; clear HB; have HO_8 := n0_; have HO_9 := n1_; have HO331 := n2_; have HO335 := n3_; have HO341 := n4_; have BK338 := n5_; have HB := n6_; clear n0_ n1_ n2_ n3_ n4_ n5_ n6_; (try clear hb); (try clear hb2); (try clear hk); (try clear hi); (try clear ho0); obtain ⟨Ao26, co26, eo26⟩ := Kd.V_slice HO341.out; subst eo26) | (go_at_call 13; (with_reducible refine (lin_Order.calls (Int.tmod (wrap64 (a0)) 2049) _ _ t339 t342 t343 _ ?side1 ?side2 A14.out).mono ?_); (case side1 => repeat (first | exact (Kd.V_reads' HO341.out).2.2 | (with_reducible refine Kd.C_alloc ?_ _) | (with_reducible refine Kd.C_drewN ?_ _) | (with_reducible refine Kd.C_drew ?_))); (case side2 => exact (Kd.V_reads' HO341.out).2.1); rintro e w27 ⟨v344, rfl, ho0, hb⟩; have n0_ := Aside0.mk (Kd.R_below (by (with_reducible repeat (first | apply Kd.R_alloc | apply Kd.R_drewN | apply Kd.R_drew)); exact HO_8.out) hb); have n1_ := Aside0.mk (Kd.R_below (by (with_reducible repeat (first | apply Kd.R_alloc | apply Kd.R_drewN | apply Kd.R_drew)); exact HO_9.out) hb); have n2_ := Aside0.mk (Kd.R_below (by (with_reducible repeat (first | apply Kd.R_alloc | apply Kd.R_drewN | apply Kd.R_drew)); exact HO331.out) hb); have n3_ := Aside0.mk (Kd.V_elder' (by (with_reducible repeat (first | apply Kd.V_alloc | apply Kd.V_drewN | apply Kd.V_drew)); exact HO335.out) (Kd.R_base ho0) hb); have n4_ := Aside0.mk (Kd.V_elder' (by (with_reducible repeat (first | apply Kd.V_alloc | apply Kd.V_drewN | apply Kd.V_drew)); exact HO341.out) (Kd.R_base ho0) hb); have n5_ := Aside0.mk (Kd.R_lower ho0 (below_size (by repeat (first | (with_reducible first | exact HB.out | apply below_alloc | apply pw_below_drewN | apply below_drew1 | refine below_set ?_ GE338.out) | exact HB.out)))); have n6_ := Aside0.mk (blk_below (g := gb338) (o := .cells #[.int .i64 t332, .slice Ao23 t333.length co23] 43 (0, 0)) (by (with_reducible repeat (first | refine blk_drewN ?_ _ | refine blk_drew ?_ | refine blk_alloc ?_ _)); exact BK338.out) hb); have n7_ := Aside0.mk (below_step (by repeat (first | (with_reducible first | exact HB.out | apply below_alloc | apply pw_below_drewN | apply below_drew1 | refine below_set ?_ GE338.out) | exact HB.out)) hb); clear HO_8; clear HO_9; clear HO331; clear HO335; clear HO341; clear BK338; clear HB; have HO_8 := n0_; have HO_9 := n1_; have HO331 := n2_; have HO335 := n3_; have HO341 := n4_; have HO345 := n5_; have BK338 := n6_; have HB := n7_; clear n0_ n1_ n2_ n3_ n4_ n5_ n6_ n7_; (try clear hb); (try clear hb2); (try clear hk); (try clear hi); (try clear ho0)))
    repeat (go_quiet (first | (go_at_call 17; (with_reducible refine (model_New.calls (Int.tmod (wrap64 (a0)) 2049) t328 t329 _ A11.out).mono ?_); rintro e w17 ⟨v330, rfl, ho0, hb⟩; have n0_ := Aside0.mk (Kd.R_below (by (with_reducible repeat (first | apply Kd.R_alloc | apply Kd.R_drewN | apply Kd.R_drew)); exact HO_8.out) hb); have n1_ := Aside0.mk (Kd.R_below (by (with_reducible repeat (first | apply Kd.R_alloc | apply Kd.R_drewN | apply Kd.R_drew)); exact HO_9.out) hb); have n2_ := Aside0.mk (Kd.R_lower ho0 (below_size (by repeat (first | (with_reducible first | exact HB.out | apply below_alloc | apply pw_below_drewN | apply below_drew1) | exact HB.out)))); have n3_ := Aside0.mk (below_step (by repeat (first | (with_reducible first | exact HB.out | apply below_alloc | apply pw_below_drewN | apply below_drew1) | exact HB.out)) hb); clear HO_8; clear HO_9; clear HB; have HO_8 := n0_; have HO_9 := n1_; have HO331 := n2_; have HB := n3_; clear n0_ n1_ n2_ n3_; (try clear hb); (try clear hb2); (try clear hk); (try clear hi); (try clear ho0); obtain ⟨Ao18, co18, eo18⟩ := Kd.R_slice HO331.out; subst eo18; obtain ⟨Ao19, co19, eo19⟩ := Kd.R_slice HO_9.out; subst eo19) | (go_at_call 16; (with_reducible refine (model_Accepts.calls t328 _ _ t329 _ _ x9_1 t332 t333 t336 t337 _ ?side1 ?side2 ?side3 ?side4 A12.out).mono ?_); (case side1 => repeat (first | exact (Kd.R_reads' HO331.out).2.2 | (with_reducible refine Kd.C_alloc ?_ _) | (with_reducible refine Kd.C_drewN ?_ _) | (with_reducible refine Kd.C_drew ?_))); (case side2 => exact (Kd.R_reads' HO331.out).2.1); (case side3 => repeat (first | exact (Kd.R_reads' HO_9.out).2.2 | (with_reducible refine Kd.C_alloc ?_ _) | (with_reducible refine Kd.C_drewN ?_ _) | (with_reducible refine Kd.C_drew ?_))); (case side4 => exact (Kd.R_reads' HO_9.out).2.1); rintro e w20 ⟨v334, rfl, ho0, hb⟩; have n0_ := Aside0.mk (Kd.R_below (by (with_reducible repeat (first | apply Kd.R_alloc | apply Kd.R_drewN | apply Kd.R_drew)); exact HO_8.out) hb); have n1_ := Aside0.mk (Kd.R_below (by (with_reducible repeat (first | apply Kd.R_alloc | apply Kd.R_drewN | apply Kd.R_drew)); exact HO_9.out) hb); have n2_ := Aside0.mk (Kd.R_below (by (with_reducible repeat (first | apply Kd.R_alloc | apply Kd.R_drewN | apply Kd.R_drew)); exact HO331.out) hb); have n3_ := Aside0.mk (Kd.V_lower (Kd.V_mono (ok' := fun k_ => some k_ ≠ (.slice Ao16 t321.length co16 : Value).ownBlock ∧ some k_ ≠ (.slice Ao19 x9_1.length co19 : Value).ownBlock ∧ some k_ ≠ (.slice Ao18 t329.length co18 : Value).ownBlock) ho0 (fun k_ hk_ => ⟨(Kd.fresh' (Kd.R_lt (by (with_reducible repeat (first | apply Kd.R_alloc | apply Kd.R_drewN | apply Kd.R_drew)); exact HO_8.out)) k_ hk_), (Kd.fresh' (Kd.R_lt (by (with_reducible repeat (first | apply Kd.R_alloc | apply Kd.R_drewN | apply Kd.R_drew)); exact HO_9.out)) k_ hk_), (Kd.fresh' (Kd.R_lt (by (with_reducible repeat (first | apply Kd.R_alloc | apply Kd.R_drewN | apply Kd.R_drew)); exact HO331.out)) k_ hk_)⟩)) (below_size (by repeat (first | (with_reducible first | exact HB.out | apply below_alloc | apply pw_below_drewN | apply below_drew1) | exact HB.out)))); have n4_ := Aside0.mk (below_step (by repeat (first | (with_reducible first | exact HB.out | apply below_alloc | apply pw_below_drewN | apply below_drew1) | exact HB.out)) hb); clear HO_8; clear HO_9; clear HO331; clear HB; have HO_8 := n0_; have HO_9 := n1_; have HO331 := n2_; have HO335 := n3_; have HB := n4_; clear n0_ n1_ n2_ n3_ n4_; (try clear hb); (try clear hb2); (try clear hk); (try clear hi); (try clear ho0)) | ((with_reducible refine gate_dst (N := 11) rfl ?_); (try (refine gate_guard (by rfl) ?_; dsimp only)); refine box_event ?hg (N := 11) ?hd (cs := #[.int .i64 0, .slice none 0 0]) (t := 43) ?hr ?_; (case hd => rfl); (case hg => rfl); (case hr => first | (go_simp; done) | (go_simp; rfl)); intro gb338 hg w21 hbox hb; have n0_ := Aside0.mk (Kd.R_below (by (with_reducible repeat (first | apply Kd.R_alloc | apply Kd.R_drewN | apply Kd.R_drew)); exact HO_8.out) hb); have n1_ := Aside0.mk (Kd.R_below (by (with_reducible repeat (first | apply Kd.R_alloc | apply Kd.R_drewN | apply Kd.R_drew)); exact HO_9.out) hb); have n2_ := Aside0.mk (Kd.R_below (by (with_reducible repeat (first | apply Kd.R_alloc | apply Kd.R_drewN | apply Kd.R_drew)); exact HO331.out) hb); have n3_ := Aside0.mk (Kd.V_below (Kd.V_elderB (by (with_reducible repeat (first | apply Kd.V_alloc | apply Kd.V_drewN | apply Kd.V_drew)); exact HO335.out) gb338 (Nat.le_of_eq hg.symm)) hb); have n4_ := Aside0.mk (below_step (by repeat (first | (with_reducible first | exact HB.out | apply below_alloc | apply pw_below_drewN | apply below_drew1) | exact HB.out)) hb); have n5_ := Aside0.mk (hbox); have n6_ := Aside0.mk ((by rw [hg]; exact (below_size (by repeat (first | (with_reducible first | exact HB.out | apply below_alloc | apply pw_below_drewN | apply below_drew1) | exact HB.out))) : w.heap.size ≤ gb338)); have n7_ := Aside0.mk ((by rw [hg]; exact (below_size (by repeat (first | (with_reducible first | exact HB.out | apply below_alloc | apply pw_below_drewN | apply below_drew1) | exact HB.out))) : w.heap.size ≤ gb338)); clear HO_8; clear HO_9; clear HO331; clear HO335; clear HB; have HO_8 := n0_; have HO_9 := n1_; have HO331 := n2_; have HO335 := n3_; have HB := n4_; have BK338 := n5_; have GW338 := n6_; have GE338 := n7_; clear n0_ n1_ n2_ n3_ n4_ n5_ n6_ n7_; clear hb hbox hg; have hcz22_0 : w21.cell? ⟨gb338, 0, none⟩ = some (.int .i64 0) := (blk_cell BK338.out 0).trans rfl; have hcz22_1 : w21.cell? ⟨gb338, 1, none⟩ = some (.slice none 0 0) := (blk_cell BK338.out 1).trans rfl; have hfz22_0 := blk_frozen BK338.out 0; have hfz22_1 := blk_frozen BK338.out 1; obtain ⟨Ao23, co23, eo23⟩ := Kd.V_slice HO335.out; subst eo23) | ((with_reducible refine gate_store (t := 43) (p := 11) rfl ?_); (try (rw [drewN_self w21]; generalize hq_ : World.drewN w21 _ = w21; have n0_ := Aside0.mk (Kd.R_at hq_ HO_8.out); have n1_ := Aside0.mk (Kd.R_at hq_ HO_9.out); have n2_ := Aside0.mk (Kd.R_at hq_ HO331.out); have n3_ := Aside0.mk (Kd.V_at hq_ HO335.out); have n4_ := Aside0.mk (blk_at hq_ BK338.out); have n5_ := Aside0.mk (below_at hq_ HB.out); clear hq_ HO_8 HO_9 HO331 HO335 BK338 HB; have HO_8 := n0_; have HO_9 := n1_; have HO331 := n2_; have HO335 := n3_; have BK338 := n4_; have HB := n5_; clear n0_ n1_ n2_ n3_ n4_ n5_)); refine store_event (t := 43) (p := 11) (v := ?vo_w24) (w1 := ((w21.setCell ⟨gb338, 0, none⟩ (.int .i64 t332)).setCell ⟨gb338, 1, none⟩ (.slice Ao23 t333.length co23))) ?hg ?ho ?hn ?hr ?_; (case ho => rfl); (case hg => rfl); (case hn => rfl); (case hr => first | (go_simp; done) | (go_simp; rfl)); intro w24 hw; have n0_ : Aside0 (Kd.R k40 40 w24 w.heap.size (fun _ => True) (.slice Ao16 t321.length co16) t321) := ⟨(by rw [hw]; exact (by (with_reducible repeat (first | apply Kd.R_alloc | apply Kd.R_drewN | apply Kd.R_drew)); exact Kd.R_mono (Kd.R_far (p := ⟨gb338, 1, none⟩) (Kd.R_far (p := ⟨gb338, 0, none⟩) (Kd.R_types HO_8.out BK338.out (by decide)) (fun _ hk => hk.2) (.int .i64 t332)) (fun _ hk => hk.2) (.slice Ao23 t333.length co23)) (fun _ hk => trivial)))⟩; have n1_ : Aside0 (Kd.R k38 38 w24 w.heap.size (fun _ => True) (.slice Ao19 x9_1.length co19) x9_1) := ⟨(by rw [hw]; exact (by (with_reducible repeat (first | apply Kd.R_alloc | apply Kd.R_drewN | apply Kd.R_drew)); exact Kd.R_mono (Kd.R_far (p := ⟨gb338, 1, none⟩) (Kd.R_far (p := ⟨gb338, 0, none⟩) (Kd.R_types HO_9.out BK338.out (by decide)) (fun _ hk => hk.2) (.int .i64 t332)) (fun _ hk => hk.2) (.slice Ao23 t333.length co23)) (fun _ hk => trivial)))⟩; have n2_ : Aside0 (Kd.R k59 59 w24 w.heap.size (fun _ => True) (.slice Ao18 t329.length co18) t329) := ⟨(by rw [hw]; exact (by (with_reducible repeat (first | apply Kd.R_alloc | apply Kd.R_drewN | apply Kd.R_drew)); exact Kd.R_mono (Kd.R_far (p := ⟨gb338, 1, none⟩) (Kd.R_far (p := ⟨gb338, 0, none⟩) (Kd.R_types HO331.out BK338.out (by decide)) (fun _ hk => hk.2) (.int .i64 t332)) (fun _ hk => hk.2) (.slice Ao23 t333.length co23)) (fun _ hk => trivial)))⟩; have n3_ : Aside0 (Kd.V k59 59 w24 w.heap.size (fun k_ => some k_ ≠ (.slice Ao16 t321.length co16 : Value).ownBlock ∧ some k_ ≠ (.slice Ao19 x9_1.length co19 : Value).ownBlock ∧ some k_ ≠ (.slice Ao18 t329.length co18 : Value).ownBlock ∧ k_ ≠ gb338) (.slice Ao23 t333.length co23) t333) := ⟨(by rw [hw]; exact (by (with_reducible repeat (first | apply Kd.V_alloc | apply Kd.V_drewN | apply Kd.V_drew)); exact Kd.V_mono (Kd.V_far (p := ⟨gb338, 1, none⟩) (Kd.V_far (p := ⟨gb338, 0, none⟩) (Kd.V_mono HO335.out (fun k_ hk => (⟨hk, hk.2⟩ : _ ∧ k_ ≠ gb338))) (fun _ hk => hk.2) (.int .i64 t332)) (fun _ hk => hk.2) (.slice Ao23 t333.length co23)) (fun _ hk => ⟨hk.1.1.1, ⟨hk.1.1.2.1, ⟨hk.1.1.2.2, hk.1.2⟩⟩⟩)))⟩; have n4_ : Aside0 (w24.heap[gb338]? = some (.cells #[.int .i64 t332, .slice Ao23 t333.length co23] 43 (0, 0))) := ⟨(by rw [hw]; exact (by (with_reducible repeat (first | refine blk_drewN ?_ _ | refine blk_drew ?_ | refine blk_alloc ?_ _)); refine blk_put (cs := #[.int .i64 t332, .slice none 0 0]) ?_ 1 _ rfl; (with_reducible repeat (first | refine blk_drewN ?_ _ | refine blk_drew ?_ | refine blk_alloc ?_ _)); refine blk_put (cs := #[.int .i64 0, .slice none 0 0]) ?_ 0 _ rfl; (with_reducible repeat (first | refine blk_drewN ?_ _ | refine blk_drew ?_ | refine blk_alloc ?_ _)); exact BK338.out))⟩; have n5_ : Aside0 (Below w.heap.size w w24) := ⟨(by rw [hw]; exact (by repeat (first | (with_reducible first | exact HB.out | apply below_alloc | apply pw_below_drewN | apply below_drew1 | refine below_set ?_ GE338.out) | exact HB.out)))⟩; clear hw; clear HO_8; clear HO_9; clear HO331; clear HO335; clear BK338; clear HB; have HO_8 := n0_; have HO_9 := n1_; have HO331 := n2_; have HO335 := n3_; have BK338 := n4_; have HB := n5_; clear n0_ n1_ n2_ n3_ n4_ n5_) | (go_at_call 11; (with_reducible refine (rickyardlaw27_Turned.calls (fun k_ => some k_ = (.slice Ao16 t321.length co16 : Value).ownBlock) _ _ t321 a2 t339 _ ?side1 A13.out).mono ?_); (case side1 => exact Kd.R_V (Kd.R_tight rfl (Kd.R_types (Kd.R_apart' (Kd.R_apart' (HO_8.out) (Kd.R_typed HO_9.out) (by decide)) (Kd.R_typed HO331.out) (by decide)) BK338.out (by decide)))); rintro e w25 ⟨v340, rfl, ho0, hb⟩; have n0_ := Aside0.mk (Kd.R_below (by (with_reducible repeat (first | apply Kd.R_alloc | apply Kd.R_drewN | apply Kd.R_drew)); exact HO_8.out) hb); have n1_ := Aside0.mk (Kd.R_below (by (with_reducible repeat (first | apply Kd.R_alloc | apply Kd.R_drewN | apply Kd.R_drew)); exact HO_9.out) hb); have n2_ := Aside0.mk (Kd.R_below (by (with_reducible repeat (first | apply Kd.R_alloc | apply Kd.R_drewN | apply Kd.R_drew)); exact HO331.out) hb); have n3_ := Aside0.mk (Kd.V_below (by (with_reducible repeat (first | apply Kd.V_alloc | apply Kd.V_drewN | apply Kd.V_drew)); exact HO335.out) hb); have n4_ := Aside0.mk (Kd.V_lower (Kd.V_mono (ok' := fun k_ => some k_ ≠ (.slice Ao19 x9_1.length co19 : Value).ownBlock ∧ some k_ ≠ (.slice Ao18 t329.length co18 : Value).ownBlock ∧ k_ ≠ gb338) ho0 (fun k_ hk_ => ⟨Or.elim hk_ (fun hs_ => ((Kd.R_types (Kd.R_apart' (Kd.R_apart' (HO_8.out) (Kd.R_typed HO_9.out) (by decide)) (Kd.R_typed HO331.out) (by decide)) BK338.out (by decide)).1 k_ hs_.symm).1.1.2) (fun hn_ => (Kd.fresh' (Kd.R_lt (by (with_reducible repeat (first | apply Kd.R_alloc | apply Kd.R_drewN | apply Kd.R_drew)); exact HO_9.out)) k_ hn_)), Or.elim hk_ (fun hs_ => ((Kd.R_types (Kd.R_apart' (Kd.R_apart' (HO_8.out) (Kd.R_typed HO_9.out) (by decide)) (Kd.R_typed HO331.out) (by decide)) BK338.out (by decide)).1 k_ hs_.symm).1.2) (fun hn_ => (Kd.fresh' (Kd.R_lt (by (with_reducible repeat (first | apply Kd.R_alloc | apply Kd.R_drewN | apply Kd.R_drew)); exact HO331.out)) k_ hn_)), Or.elim hk_ (fun hs_ => ((Kd.R_types (Kd.R_apart' (Kd.R_apart' (HO_8.out) (Kd.R_typed HO_9.out) (by decide)) (Kd.R_typed HO331.out) (by decide)) BK338.out (by decide)).1 k_ hs_.symm).2) (fun hn_ => (Kd.freshB (g := gb338) (o := .cells #[.int .i64 t332, .slice Ao23 t333.length co23] 43 (0, 0)) (by (with_reducible repeat (first | refine blk_drewN ?_ _ | refine blk_drew ?_ | refine blk_alloc ?_ _)); exact BK338.out) k_ hn_))⟩)) (below_size (by repeat (first | (with_reducible first | exact HB.out | apply below_alloc | apply pw_below_drewN | apply below_drew1 | refine below_set ?_ GE338.out) | exact HB.out)))); have n5_ := Aside0.mk (blk_below (g := gb338) (o := .cells #[.int .i64 t332, .slice Ao23 t333.length co23] 43 (0, 0)) (by (with_reducible repeat (first | refine blk_drewN ?_ _ | refine blk_drew ?_ | refine blk_alloc ?_ _)); exact BK338.out) hb); have n6_ := Aside0.mk (below_step (by repeat (first | (with_reducible first | exact HB.out | apply below_alloc | apply pw_below_drewN | apply below_drew1 | refine below_set ?_ GE338.out) | exact HB.out)) hb); clear HO_8; clear HO_9; clear HO331; clear HO335; clear BK338; clear HB; have HO_8 := n0_; have HO_9 := n1_; have HO331 := n2_; have HO335 := n3_; have HO341 := n4_; have BK338 := n5_; have HB := n6_; clear n0_ n1_ n2_ n3_ n4_ n5_ n6_; (try clear hb); (try clear hb2); (try clear hk); (try clear hi); (try clear ho0); obtain ⟨Ao26, co26, eo26⟩ := Kd.V_slice HO341.out; subst eo26) | (go_at_call 13; (with_reducible refine (lin_Order.calls (Int.tmod (wrap64 (a0)) 2049) _ _ t339 t342 t343 _ ?side1 ?side2 A14.out).mono ?_); (case side1 => repeat (first | exact (Kd.V_reads' HO341.out).2.2 | (with_reducible refine Kd.C_alloc ?_ _) | (with_reducible refine Kd.C_drewN ?_ _) | (with_reducible refine Kd.C_drew ?_))); (case side2 => exact (Kd.V_reads' HO341.out).2.1); rintro e w27 ⟨v344, rfl, ho0, hb⟩; have n0_ := Aside0.mk (Kd.R_below (by (with_reducible repeat (first | apply Kd.R_alloc | apply Kd.R_drewN | apply Kd.R_drew)); exact HO_8.out) hb); have n1_ := Aside0.mk (Kd.R_below (by (with_reducible repeat (first | apply Kd.R_alloc | apply Kd.R_drewN | apply Kd.R_drew)); exact HO_9.out) hb); have n2_ := Aside0.mk (Kd.R_below (by (with_reducible repeat (first | apply Kd.R_alloc | apply Kd.R_drewN | apply Kd.R_drew)); exact HO331.out) hb); have n3_ := Aside0.mk (Kd.V_elder' (by (with_reducible repeat (first | apply Kd.V_alloc | apply Kd.V_drewN | apply Kd.V_drew)); exact HO335.out) (Kd.R_base ho0) hb); have n4_ := Aside0.mk (Kd.V_elder' (by (with_reducible repeat (first | apply Kd.V_alloc | apply Kd.V_drewN | apply Kd.V_drew)); exact HO341.out) (Kd.R_base ho0) hb); have n5_ := Aside0.mk (Kd.R_lower ho0 (below_size (by repeat (first | (with_reducible first | exact HB.out | apply below_alloc | apply pw_below_drewN | apply below_drew1 | refine below_set ?_ GE338.out) | exact HB.out)))); have n6_ := Aside0.mk (blk_below (g := gb338) (o := .cells #[.int .i64 t332, .slice Ao23 t333.length co23] 43 (0, 0)) (by (with_reducible repeat (first | refine blk_drewN ?_ _ | refine blk_drew ?_ | refine blk_alloc ?_ _)); exact BK338.out) hb); have n7_ := Aside0.mk (below_step (by repeat (first | (with_reducible first | exact HB.out | apply below_alloc | apply pw_below_drewN | apply below_drew1 | refine below_set ?_ GE338.out) | exact HB.out)) hb); clear HO_8; clear HO_9; clear HO331; clear HO335; clear HO341; clear BK338; clear HB; have HO_8 := n0_; have HO_9 := n1_; have HO331 := n2_; have HO335 := n3_; have HO341 := n4_; have HO345 := n5_; have BK338 := n6_; have HB := n7_; clear n0_ n1_ n2_ n3_ n4_ n5_ n6_ n7_; (try clear hb); (try clear hb2); (try clear hk); (try clear hi); (try clear ho0))); go_upto_region 11 with (first | (go_at_call 17; (with_reducible refine (model_New.calls (Int.tmod (wrap64 (a0)) 2049) t328 t329 _ A11.out).mono ?_); rintro e w17 ⟨v330, rfl, ho0, hb⟩; have n0_ := Aside0.mk (Kd.R_below (by (with_reducible repeat (first | apply Kd.R_alloc | apply Kd.R_drewN | apply Kd.R_drew)); exact HO_8.out) hb); have n1_ := Aside0.mk (Kd.R_below (by (with_reducible repeat (first | apply Kd.R_alloc | apply Kd.R_drewN | apply Kd.R_drew)); exact HO_9.out) hb); have n2_ := Aside0.mk (Kd.R_lower ho0 (below_size (by repeat (first | (with_reducible first | exact HB.out | apply below_alloc | apply pw_below_drewN | apply below_drew1) | exact HB.out)))); have n3_ := Aside0.mk (below_step (by repeat (first | (with_reducible first | exact HB.out | apply below_alloc | apply pw_below_drewN | apply below_drew1) | exact HB.out)) hb); clear HO_8; clear HO_9; clear HB; have HO_8 := n0_; have HO_9 := n1_; have HO331 := n2_; have HB := n3_; clear n0_ n1_ n2_ n3_; (try clear hb); (try clear hb2); (try clear hk); (try clear hi); (try clear ho0); obtain ⟨Ao18, co18, eo18⟩ := Kd.R_slice HO331.out; subst eo18; obtain ⟨Ao19, co19, eo19⟩ := Kd.R_slice HO_9.out; subst eo19) | (go_at_call 16; (with_reducible refine (model_Accepts.calls t328 _ _ t329 _ _ x9_1 t332 t333 t336 t337 _ ?side1 ?side2 ?side3 ?side4 A12.out).mono ?_); (case side1 => repeat (first | exact (Kd.R_reads' HO331.out).2.2 | (with_reducible refine Kd.C_alloc ?_ _) | (with_reducible refine Kd.C_drewN ?_ _) | (with_reducible refine Kd.C_drew ?_))); (case side2 => exact (Kd.R_reads' HO331.out).2.1); (case side3 => repeat (first | exact (Kd.R_reads' HO_9.out).2.2 | (with_reducible refine Kd.C_alloc ?_ _) | (with_reducible refine Kd.C_drewN ?_ _) | (with_reducible refine Kd.C_drew ?_))); (case side4 => exact (Kd.R_reads' HO_9.out).2.1); rintro e w20 ⟨v334, rfl, ho0, hb⟩; have n0_ := Aside0.mk (Kd.R_below (by (with_reducible repeat (first | apply Kd.R_alloc | apply Kd.R_drewN | apply Kd.R_drew)); exact HO_8.out) hb); have n1_ := Aside0.mk (Kd.R_below (by (with_reducible repeat (first | apply Kd.R_alloc | apply Kd.R_drewN | apply Kd.R_drew)); exact HO_9.out) hb); have n2_ := Aside0.mk (Kd.R_below (by (with_reducible repeat (first | apply Kd.R_alloc | apply Kd.R_drewN | apply Kd.R_drew)); exact HO331.out) hb); have n3_ := Aside0.mk (Kd.V_lower (Kd.V_mono (ok' := fun k_ => some k_ ≠ (.slice Ao16 t321.length co16 : Value).ownBlock ∧ some k_ ≠ (.slice Ao19 x9_1.length co19 : Value).ownBlock ∧ some k_ ≠ (.slice Ao18 t329.length co18 : Value).ownBlock) ho0 (fun k_ hk_ => ⟨(Kd.fresh' (Kd.R_lt (by (with_reducible repeat (first | apply Kd.R_alloc | apply Kd.R_drewN | apply Kd.R_drew)); exact HO_8.out)) k_ hk_), (Kd.fresh' (Kd.R_lt (by (with_reducible repeat (first | apply Kd.R_alloc | apply Kd.R_drewN | apply Kd.R_drew)); exact HO_9.out)) k_ hk_), (Kd.fresh' (Kd.R_lt (by (with_reducible repeat (first | apply Kd.R_alloc | apply Kd.R_drewN | apply Kd.R_drew)); exact HO331.out)) k_ hk_)⟩)) (below_size (by repeat (first | (with_reducible first | exact HB.out | apply below_alloc | apply pw_below_drewN | apply below_drew1) | exact HB.out)))); have n4_ := Aside0.mk (below_step (by repeat (first | (with_reducible first | exact HB.out | apply below_alloc | apply pw_below_drewN | apply below_drew1) | exact HB.out)) hb); clear HO_8; clear HO_9; clear HO331; clear HB; have HO_8 := n0_; have HO_9 := n1_; have HO331 := n2_; have HO335 := n3_; have HB := n4_; clear n0_ n1_ n2_ n3_ n4_; (try clear hb); (try clear hb2); (try clear hk); (try clear hi); (try clear ho0)) | ((with_reducible refine gate_dst (N := 11) rfl ?_); (try (refine gate_guard (by rfl) ?_; dsimp only)); refine box_event ?hg (N := 11) ?hd (cs := #[.int .i64 0, .slice none 0 0]) (t := 43) ?hr ?_; (case hd => rfl); (case hg => rfl); (case hr => first | (go_simp; done) | (go_simp; rfl)); intro gb338 hg w21 hbox hb; have n0_ := Aside0.mk (Kd.R_below (by (with_reducible repeat (first | apply Kd.R_alloc | apply Kd.R_drewN | apply Kd.R_drew)); exact HO_8.out) hb); have n1_ := Aside0.mk (Kd.R_below (by (with_reducible repeat (first | apply Kd.R_alloc | apply Kd.R_drewN | apply Kd.R_drew)); exact HO_9.out) hb); have n2_ := Aside0.mk (Kd.R_below (by (with_reducible repeat (first | apply Kd.R_alloc | apply Kd.R_drewN | apply Kd.R_drew)); exact HO331.out) hb); have n3_ := Aside0.mk (Kd.V_below (Kd.V_elderB (by (with_reducible repeat (first | apply Kd.V_alloc | apply Kd.V_drewN | apply Kd.V_drew)); exact HO335.out) gb338 (Nat.le_of_eq hg.symm)) hb); have n4_ := Aside0.mk (below_step (by repeat (first | (with_reducible first | exact HB.out | apply below_alloc | apply pw_below_drewN | apply below_drew1) | exact HB.out)) hb); have n5_ := Aside0.mk (hbox); have n6_ := Aside0.mk ((by rw [hg]; exact (below_size (by repeat (first | (with_reducible first | exact HB.out | apply below_alloc | apply pw_below_drewN | apply below_drew1) | exact HB.out))) : w.heap.size ≤ gb338)); have n7_ := Aside0.mk ((by rw [hg]; exact (below_size (by repeat (first | (with_reducible first | exact HB.out | apply below_alloc | apply pw_below_drewN | apply below_drew1) | exact HB.out))) : w.heap.size ≤ gb338)); clear HO_8; clear HO_9; clear HO331; clear HO335; clear HB; have HO_8 := n0_; have HO_9 := n1_; have HO331 := n2_; have HO335 := n3_; have HB := n4_; have BK338 := n5_; have GW338 := n6_; have GE338 := n7_; clear n0_ n1_ n2_ n3_ n4_ n5_ n6_ n7_; clear hb hbox hg; have hcz22_0 : w21.cell? ⟨gb338, 0, none⟩ = some (.int .i64 0) := (blk_cell BK338.out 0).trans rfl; have hcz22_1 : w21.cell? ⟨gb338, 1, none⟩ = some (.slice none 0 0) := (blk_cell BK338.out 1).trans rfl; have hfz22_0 := blk_frozen BK338.out 0; have hfz22_1 := blk_frozen BK338.out 1; obtain ⟨Ao23, co23, eo23⟩ := Kd.V_slice HO335.out; subst eo23) | ((with_reducible refine gate_store (t := 43) (p := 11) rfl ?_); (try (rw [drewN_self w21]; generalize hq_ : World.drewN w21 _ = w21; have n0_ := Aside0.mk (Kd.R_at hq_ HO_8.out); have n1_ := Aside0.mk (Kd.R_at hq_ HO_9.out); have n2_ := Aside0.mk (Kd.R_at hq_ HO331.out); have n3_ := Aside0.mk (Kd.V_at hq_ HO335.out); have n4_ := Aside0.mk (blk_at hq_ BK338.out); have n5_ := Aside0.mk (below_at hq_ HB.out); clear hq_ HO_8 HO_9 HO331 HO335 BK338 HB; have HO_8 := n0_; have HO_9 := n1_; have HO331 := n2_; have HO335 := n3_; have BK338 := n4_; have HB := n5_; clear n0_ n1_ n2_ n3_ n4_ n5_)); refine store_event (t := 43) (p := 11) (v := ?vo_w24) (w1 := ((w21.setCell ⟨gb338, 0, none⟩ (.int .i64 t332)).setCell ⟨gb338, 1, none⟩ (.slice Ao23 t333.length co23))) ?hg ?ho ?hn ?hr ?_; (case ho => rfl); (case hg => rfl); (case hn => rfl); (case hr => first | (go_simp; done) | (go_simp; rfl)); intro w24 hw; have n0_ : Aside0 (Kd.R k40 40 w24 w.heap.size (fun _ => True) (.slice Ao16 t321.length co16) t321) := ⟨(by rw [hw]; exact (by (with_reducible repeat (first | apply Kd.R_alloc | apply Kd.R_drewN | apply Kd.R_drew)); exact Kd.R_mono (Kd.R_far (p := ⟨gb338, 1, none⟩) (Kd.R_far (p := ⟨gb338, 0, none⟩) (Kd.R_types HO_8.out BK338.out (by decide)) (fun _ hk => hk.2) (.int .i64 t332)) (fun _ hk => hk.2) (.slice Ao23 t333.length co23)) (fun _ hk => trivial)))⟩; have n1_ : Aside0 (Kd.R k38 38 w24 w.heap.size (fun _ => True) (.slice Ao19 x9_1.length co19) x9_1) := ⟨(by rw [hw]; exact (by (with_reducible repeat (first | apply Kd.R_alloc | apply Kd.R_drewN | apply Kd.R_drew)); exact Kd.R_mono (Kd.R_far (p := ⟨gb338, 1, none⟩) (Kd.R_far (p := ⟨gb338, 0, none⟩) (Kd.R_types HO_9.out BK338.out (by decide)) (fun _ hk => hk.2) (.int .i64 t332)) (fun _ hk => hk.2) (.slice Ao23 t333.length co23)) (fun _ hk => trivial)))⟩; have n2_ : Aside0 (Kd.R k59 59 w24 w.heap.size (fun _ => True) (.slice Ao18 t329.length co18) t329) := ⟨(by rw [hw]; exact (by (with_reducible repeat (first | apply Kd.R_alloc | apply Kd.R_drewN | apply Kd.R_drew)); exact Kd.R_mono (Kd.R_far (p := ⟨gb338, 1, none⟩) (Kd.R_far (p := ⟨gb338, 0, none⟩) (Kd.R_types HO331.out BK338.out (by decide)) (fun _ hk => hk.2) (.int .i64 t332)) (fun _ hk => hk.2) (.slice Ao23 t333.length co23)) (fun _ hk => trivial)))⟩; have n3_ : Aside0 (Kd.V k59 59 w24 w.heap.size (fun k_ => some k_ ≠ (.slice Ao16 t321.length co16 : Value).ownBlock ∧ some k_ ≠ (.slice Ao19 x9_1.length co19 : Value).ownBlock ∧ some k_ ≠ (.slice Ao18 t329.length co18 : Value).ownBlock ∧ k_ ≠ gb338) (.slice Ao23 t333.length co23) t333) := ⟨(by rw [hw]; exact (by (with_reducible repeat (first | apply Kd.V_alloc | apply Kd.V_drewN | apply Kd.V_drew)); exact Kd.V_mono (Kd.V_far (p := ⟨gb338, 1, none⟩) (Kd.V_far (p := ⟨gb338, 0, none⟩) (Kd.V_mono HO335.out (fun k_ hk => (⟨hk, hk.2⟩ : _ ∧ k_ ≠ gb338))) (fun _ hk => hk.2) (.int .i64 t332)) (fun _ hk => hk.2) (.slice Ao23 t333.length co23)) (fun _ hk => ⟨hk.1.1.1, ⟨hk.1.1.2.1, ⟨hk.1.1.2.2, hk.1.2⟩⟩⟩)))⟩; have n4_ : Aside0 (w24.heap[gb338]? = some (.cells #[.int .i64 t332, .slice Ao23 t333.length co23] 43 (0, 0))) := ⟨(by rw [hw]; exact (by (with_reducible repeat (first | refine blk_drewN ?_ _ | refine blk_drew ?_ | refine blk_alloc ?_ _)); refine blk_put (cs := #[.int .i64 t332, .slice none 0 0]) ?_ 1 _ rfl; (with_reducible repeat (first | refine blk_drewN ?_ _ | refine blk_drew ?_ | refine blk_alloc ?_ _)); refine blk_put (cs := #[.int .i64 0, .slice none 0 0]) ?_ 0 _ rfl; (with_reducible repeat (first | refine blk_drewN ?_ _ | refine blk_drew ?_ | refine blk_alloc ?_ _)); exact BK338.out))⟩; have n5_ : Aside0 (Below w.heap.size w w24) := ⟨(by rw [hw]; exact (by repeat (first | (with_reducible first | exact HB.out | apply below_alloc | apply pw_below_drewN | apply below_drew1 | refine below_set ?_ GE338.out) | exact HB.out)))⟩; clear hw; clear HO_8; clear HO_9; clear HO331; clear HO335; clear BK338; clear HB; have HO_8 := n0_; have HO_9 := n1_; have HO331 := n2_; have HO335 := n3_; have BK338 := n4_; have HB := n5_; clear n0_ n1_ n2_ n3_ n4_ n5_) | (go_at_call 11; (with_reducible refine (rickyardlaw27_Turned.calls (fun k_ => some k_ = (.slice Ao16 t321.length co16 : Value).ownBlock) _ _ t321 a2 t339 _ ?side1 A13.out).mono ?_); (case side1 => exact Kd.R_V (Kd.R_tight rfl (Kd.R_types (Kd.R_apart' (Kd.R_apart' (HO_8.out) (Kd.R_typed HO_9.out) (by decide)) (Kd.R_typed HO331.out) (by decide)) BK338.out (by decide)))); rintro e w25 ⟨v340, rfl, ho0, hb⟩; have n0_ := Aside0.mk (Kd.R_below (by (with_reducible repeat (first | apply Kd.R_alloc | apply Kd.R_drewN | apply Kd.R_drew)); exact HO_8.out) hb); have n1_ := Aside0.mk (Kd.R_below (by (with_reducible repeat (first | apply Kd.R_alloc | apply Kd.R_drewN | apply Kd.R_drew)); exact HO_9.out) hb); have n2_ := Aside0.mk (Kd.R_below (by (with_reducible repeat (first | apply Kd.R_alloc | apply Kd.R_drewN | apply Kd.R_drew)); exact HO331.out) hb); have n3_ := Aside0.mk (Kd.V_below (by (with_reducible repeat (first | apply Kd.V_alloc | apply Kd.V_drewN | apply Kd.V_drew)); exact HO335.out) hb); have n4_ := Aside0.mk (Kd.V_lower (Kd.V_mono (ok' := fun k_ => some k_ ≠ (.slice Ao19 x9_1.length co19 : Value).ownBlock ∧ some k_ ≠ (.slice Ao18 t329.length co18 : Value).ownBlock ∧ k_ ≠ gb338) ho0 (fun k_ hk_ => ⟨Or.elim hk_ (fun hs_ => ((Kd.R_types (Kd.R_apart' (Kd.R_apart' (HO_8.out) (Kd.R_typed HO_9.out) (by decide)) (Kd.R_typed HO331.out) (by decide)) BK338.out (by decide)).1 k_ hs_.symm).1.1.2) (fun hn_ => (Kd.fresh' (Kd.R_lt (by (with_reducible repeat (first | apply Kd.R_alloc | apply Kd.R_drewN | apply Kd.R_drew)); exact HO_9.out)) k_ hn_)), Or.elim hk_ (fun hs_ => ((Kd.R_types (Kd.R_apart' (Kd.R_apart' (HO_8.out) (Kd.R_typed HO_9.out) (by decide)) (Kd.R_typed HO331.out) (by decide)) BK338.out (by decide)).1 k_ hs_.symm).1.2) (fun hn_ => (Kd.fresh' (Kd.R_lt (by (with_reducible repeat (first | apply Kd.R_alloc | apply Kd.R_drewN | apply Kd.R_drew)); exact HO331.out)) k_ hn_)), Or.elim hk_ (fun hs_ => ((Kd.R_types (Kd.R_apart' (Kd.R_apart' (HO_8.out) (Kd.R_typed HO_9.out) (by decide)) (Kd.R_typed HO331.out) (by decide)) BK338.out (by decide)).1 k_ hs_.symm).2) (fun hn_ => (Kd.freshB (g := gb338) (o := .cells #[.int .i64 t332, .slice Ao23 t333.length co23] 43 (0, 0)) (by (with_reducible repeat (first | refine blk_drewN ?_ _ | refine blk_drew ?_ | refine blk_alloc ?_ _)); exact BK338.out) k_ hn_))⟩)) (below_size (by repeat (first | (with_reducible first | exact HB.out | apply below_alloc | apply pw_below_drewN | apply below_drew1 | refine below_set ?_ GE338.out) | exact HB.out)))); have n5_ := Aside0.mk (blk_below (g := gb338) (o := .cells #[.int .i64 t332, .slice Ao23 t333.length co23] 43 (0, 0)) (by (with_reducible repeat (first | refine blk_drewN ?_ _ | refine blk_drew ?_ | refine blk_alloc ?_ _)); exact BK338.out) hb); have n6_ := Aside0.mk (below_step (by repeat (first | (with_reducible first | exact HB.out | apply below_alloc | apply pw_below_drewN | apply below_drew1 | refine below_set ?_ GE338.out) | exact HB.out)) hb); clear HO_8; clear HO_9; clear HO331; clear HO335; clear BK338; clear HB; have HO_8 := n0_; have HO_9 := n1_; have HO331 := n2_; have HO335 := n3_; have HO341 := n4_; have BK338 := n5_; have HB := n6_; clear n0_ n1_ n2_ n3_ n4_ n5_ n6_; (try clear hb); (try clear hb2); (try clear hk); (try clear hi); (try clear ho0); obtain ⟨Ao26, co26, eo26⟩ := Kd.V_slice HO341.out; subst eo26) | (go_at_call 13; (with_reducible refine (lin_Order.calls (Int.tmod (wrap64 (a0)) 2049) _ _ t339 t342 t343 _ ?side1 ?side2 A14.out).mono ?_); (case side1 => repeat (first | exact (Kd.V_reads' HO341.out).2.2 | (with_reducible refine Kd.C_alloc ?_ _) | (with_reducible refine Kd.C_drewN ?_ _) | (with_reducible refine Kd.C_drew ?_))); (case side2 => exact (Kd.V_reads' HO341.out).2.1); rintro e w27 ⟨v344, rfl, ho0, hb⟩; have n0_ := Aside0.mk (Kd.R_below (by (with_reducible repeat (first | apply Kd.R_alloc | apply Kd.R_drewN | apply Kd.R_drew)); exact HO_8.out) hb); have n1_ := Aside0.mk (Kd.R_below (by (with_reducible repeat (first | apply Kd.R_alloc | apply Kd.R_drewN | apply Kd.R_drew)); exact HO_9.out) hb); have n2_ := Aside0.mk (Kd.R_below (by (with_reducible repeat (first | apply Kd.R_alloc | apply Kd.R_drewN | apply Kd.R_drew)); exact HO331.out) hb); have n3_ := Aside0.mk (Kd.V_elder' (by (with_reducible repeat (first | apply Kd.V_alloc | apply Kd.V_drewN | apply Kd.V_drew)); exact HO335.out) (Kd.R_base ho0) hb); have n4_ := Aside0.mk (Kd.V_elder' (by (with_reducible repeat (first | apply Kd.V_alloc | apply Kd.V_drewN | apply Kd.V_drew)); exact HO341.out) (Kd.R_base ho0) hb); have n5_ := Aside0.mk (Kd.R_lower ho0 (below_size (by repeat (first | (with_reducible first | exact HB.out | apply below_alloc | apply pw_below_drewN | apply below_drew1 | refine below_set ?_ GE338.out) | exact HB.out)))); have n6_ := Aside0.mk (blk_below (g := gb338) (o := .cells #[.int .i64 t332, .slice Ao23 t333.length co23] 43 (0, 0)) (by (with_reducible repeat (first | refine blk_drewN ?_ _ | refine blk_drew ?_ | refine blk_alloc ?_ _)); exact BK338.out) hb); have n7_ := Aside0.mk (below_step (by repeat (first | (with_reducible first | exact HB.out | apply below_alloc | apply pw_below_drewN | apply below_drew1 | refine below_set ?_ GE338.out) | exact HB.out)) hb); clear HO_8; clear HO_9; clear HO331; clear HO335; clear HO341; clear BK338; clear HB; have HO_8 := n0_; have HO_9 := n1_; have HO331 := n2_; have HO335 := n3_; have HO341 := n4_; have HO345 := n5_; have BK338 := n6_; have HB := n7_; clear n0_ n1_ n2_ n3_ n4_ n5_ n6_ n7_; (try clear hb); (try clear hb2); (try clear hk); (try clear hi); (try clear ho0))))
    (try simp only [Act.put, List.setIfInBounds_toArray, List.set_cons_zero, List.set_cons_succ])
    go_cut [67] (fun v67 wc => ∃ (kq : Nat) (x67_14 : Bool), v67 = .bool x67_14 ∧ Aside0 (rickyardlaw27_LinRow.j1 kq t339 t342 x67_14 = some r) ∧ Aside0 (kq ≤ k1) ∧ Aside0 (Kd.V k40 40 wc w.heap.size (fun k_ => some k_ ≠ (v344 : Value).ownBlock ∧ k_ ≠ gb338) (.slice Ao26 t339.length co26) t339) ∧ Aside0 (Kd.R (Kd.int .i64) 3 wc w.heap.size (fun _ => True) v344 t342) ∧ Aside0 (Kd.V k59 59 wc w.heap.size (fun k_ => some k_ ≠ (v344 : Value).ownBlock ∧ k_ ≠ gb338) (.slice Ao23 t333.length co23) t333) ∧ Aside0 (wc.heap[gb338]? = some (.cells #[.int .i64 t332, (.slice Ao23 t333.length co23)] 43 (0, 0))) ∧ Aside0 (Below w.heap.size w wc))
    case first =>
     have H := HC15.out
     clear HC15
     by_cases c28 : (t343 != t337) = true
     ·rw [if_pos c28] at H
      have c28b0 : (t343 != t337) = true := c28
      (try (have c28b1 : decide (t343 = t337) = false := by simpa using c28))
      (try (have c28b2 : (t343 == t337) = false := by simpa using c28))
      (try (have c28b3 : ¬ (t343 = t337) := by simpa using c28))
      (try (have c28b4 : t343 = !t337 := (show ∀ p_ q_ : Bool, (p_ != q_) = true → p_ = !q_ from by decide) _ _ c28))
      clear c28
      (first | rw [c28b0] | (simp only [i64_w, i32_w]; rw [c28b0]) | skip)
      have H' := Aside0.mk H
      clear H
      go_wp2
      repeat (go_quiet (fail); try go_wp2)
      go_meet
      case rel => exact ⟨_, (true), (by first | rfl | (simp; done) | (simp [*]; done)), H', ⟨by have := HK1.out; first | omega | exact Nat.le_refl _⟩, ⟨by (with_reducible repeat (first | apply Kd.V_alloc | apply Kd.V_drewN | apply Kd.V_drew)); exact Kd.V_mono HO341.out (fun _ hk => ⟨hk.2, hk.1.2.2⟩)⟩, ⟨by (with_reducible repeat (first | apply Kd.R_alloc | apply Kd.R_drewN | apply Kd.R_drew)); exact HO345.out⟩, ⟨by (with_reducible repeat (first | apply Kd.V_alloc | apply Kd.V_drewN | apply Kd.V_drew)); exact Kd.V_mono HO335.out (fun _ hk => ⟨hk.2, hk.1.2.2.2⟩)⟩, ⟨by (with_reducible repeat (first | refine blk_drewN ?_ _ | refine blk_drew ?_ | refine blk_alloc ?_ _)); exact BK338.out⟩, ⟨by repeat (first | (with_reducible first | exact HB.out | apply below_alloc | apply pw_below_drewN | apply below_drew1 | refine below_set ?_ GE338.out) | exact HB.out)⟩⟩
     ·rw [if_neg c28] at H
      have c28b0 : (t343 != t337) = false := by simpa using c28
      (try (have c28b1 : decide (t343 = t337) = true := by simpa using c28))
      (try (have c28b2 : (t343 == t337) = true := by simpa using c28))
      (try (have c28b3 : t343 = t337 := (show ∀ p_ q_ : Bool, ¬ ((p_ != q_) = true) → p_ = q_ from by decide) _ _ c28))
      clear c28
      (first | rw [c28b0] | (simp only [i64_w, i32_w]; rw [c28b0]) | skip)
      by_cases c29 : (t342.length : Int) = (t321.length : Int)
      ·rw [if_pos c29] at H
       have c29b0 : ((t342.length : Int) == (t321.length : Int)) = true := beq_iff_eq.mpr c29
       have c29b1 : ((t342.length : Int) != (t321.length : Int)) = false := bne_eq_false_iff_eq.mpr c29
       have c29b2 : (t342.length == t321.length) = true := by first | simpa using c29 | (simp at c29 ⊢; omega)
       clear c29
       have H' := Aside0.mk H
       clear H
       obtain ⟨Ao30, co30, eo30⟩ := Kd.R_slice HO345.out
       subst eo30
       go_wp2
       repeat (go_quiet (fail); try go_wp2)
       go_meet
       case rel => exact ⟨_, (false), (by first | rfl | (simp; done) | (simp [*]; done)), H', ⟨by have := HK1.out; first | omega | exact Nat.le_refl _⟩, ⟨by (with_reducible repeat (first | apply Kd.V_alloc | apply Kd.V_drewN | apply Kd.V_drew)); exact Kd.V_mono HO341.out (fun _ hk => ⟨hk.2, hk.1.2.2⟩)⟩, ⟨by (with_reducible repeat (first | apply Kd.R_alloc | apply Kd.R_drewN | apply Kd.R_drew)); exact HO345.out⟩, ⟨by (with_reducible repeat (first | apply Kd.V_alloc | apply Kd.V_drewN | apply Kd.V_drew)); exact Kd.V_mono HO335.out (fun _ hk => ⟨hk.2, hk.1.2.2.2⟩)⟩, ⟨by (with_reducible repeat (first | refine blk_drewN ?_ _ | refine blk_drew ?_ | refine blk_alloc ?_ _)); exact BK338.out⟩, ⟨by repeat (first | (with_reducible first | exact HB.out | apply below_alloc | apply pw_below_drewN | apply below_drew1 | refine below_set ?_ GE338.out) | exact HB.out)⟩⟩
      ·rw [if_neg c29] at H
       have c29b0 : ((t342.length : Int) == (t321.length : Int)) = false := beq_eq_false_iff_ne.mpr c29
       have c29b1 : ((t342.length : Int) != (t321.length : Int)) = true := bne_iff_ne.mpr c29
       have c29b2 : (t342.length == t321.length) = false := by first | simpa using c29 | (simp at c29 ⊢; omega)
       have H' := Aside0.mk H
       clear H
       obtain ⟨Ao31, co31, eo31⟩ := Kd.R_slice HO345.out
       subst eo31
       go_wp2
       repeat (go_quiet (fail); try go_wp2)
       go_meet
       case rel => exact ⟨_, (t337), (by first | rfl | (simp; done) | (simp [*]; done)), H', ⟨by have := HK1.out; first | omega | exact Nat.le_refl _⟩, ⟨by (with_reducible repeat (first | apply Kd.V_alloc | apply Kd.V_drewN | apply Kd.V_drew)); exact Kd.V_mono HO341.out (fun _ hk => ⟨hk.2, hk.1.2.2⟩)⟩, ⟨by (with_reducible repeat (first | apply Kd.R_alloc | apply Kd.R_drewN | apply Kd.R_drew)); exact HO345.out⟩, ⟨by (with_reducible repeat (first | apply Kd.V_alloc | apply Kd.V_drewN | apply Kd.V_drew)); exact Kd.V_mono HO335.out (fun _ hk => ⟨hk.2, hk.1.2.2.2⟩)⟩, ⟨by (with_reducible repeat (first | refine blk_drewN ?_ _ | refine blk_drew ?_ | refine blk_alloc ?_ _)); exact BK338.out⟩, ⟨by repeat (first | (with_reducible first | exact HB.out | apply below_alloc | apply pw_below_drewN | apply below_drew1 | refine below_set ?_ GE338.out) | exact HB.out)⟩⟩
    case rest =>
     clear HC15
     try clear c1
     try clear c2
     try clear p2
     try clear p3
     try clear q3
     try clear hx3
     try clear c6
     try clear c6b0
     try clear p6
     try clear c7
     try clear c7b0
     try clear c8
     try clear c28
     try clear c28b0
     try clear c28b1
     try clear c28b2
     try clear c29
     try clear c29b0
     try clear c29b1
     try clear c29b2
     try clear hcz22_0
     try clear hcz22_1
     try clear hfz22_0
     try clear hfz22_1
     try clear hx324_0
     try clear hx324_1
     try clear hx324_2
     try clear hx324_3
     try clear hx324_4
     try clear hx324_5
     try clear p2
     try clear p324
     try clear q324
     obtain ⟨kq, x67_14, rfl, HA, HJ14, HO_14, HO_15, HO_339001, BK338, HB⟩ := hcut
     cases kq with
     | zero => exact absurd HA.out (by simp [rickyardlaw27_LinRow.j1])
     | succ kj14 =>
      have H := HA.out
      clear HA
      simp only [rickyardlaw27_LinRow.j1] at H
      by_cases c32 : x67_14 = true
      ·subst c32
       have H1 : (some false) = some r := by rw [if_pos rfl] at H; exact H
       clear H
       have H := H1
       clear H1
       obtain rfl := Option.some.inj H
       go_wp2
       repeat (go_quiet (fail); try go_wp2)
       go_ret
       exact ⟨by first | rfl | (simp [errW_none, errW_some] <;> rfl) | (simp [*, errW_none, errW_some] <;> rfl), by repeat (first | (with_reducible first | exact HB.out | apply below_alloc | apply pw_below_drewN | apply below_drew1 | refine below_set ?_ GE338.out) | exact HB.out)⟩
      ·replace c32 := Bool.eq_false_iff.mpr c32
       subst c32
       have H1 : (rickyardlaw27_LinRow.l1 kj14 t339 t342 1) = some r := by rw [if_neg (show ¬ (false = true) by decide)] at H; exact H
       clear H
       have H := H1
       clear H1
       have H' := Aside0.mk H
       clear H
       go_wp2
       repeat (go_quiet (fail); try go_wp2)
       go_loopg [17] kj14 (fun kq v17 w' => ∃ (x17_3 : Int), v17 = .int .i64 x17_3 ∧ Aside0 (rickyardlaw27_LinRow.l1 kq t339 t342 x17_3 = some r) ∧ Aside0 (kq ≤ kj14) ∧ Aside0 (Kd.V k40 40 w' w.heap.size (fun k_ => some k_ ≠ (v344 : Value).ownBlock ∧ k_ ≠ gb338) (.slice Ao26 t339.length co26) t339) ∧ Aside0 (Kd.R (Kd.int .i64) 3 w' w.heap.size (fun _ => True) v344 t342) ∧ Aside0 (Kd.V k59 59 w' w.heap.size (fun k_ => some k_ ≠ (v344 : Value).ownBlock ∧ k_ ≠ gb338) (.slice Ao23 t333.length co23) t333) ∧ Aside0 (w'.heap[gb338]? = some (.cells #[.int .i64 t332, (.slice Ao23 t333.length co23)] 43 (0, 0))) ∧ Aside0 (Below w.heap.size w w'))
       case atStart => exact ⟨(1), (by first | rfl | (simp; done) | (simp [*]; done)), H', ⟨Nat.le_refl _⟩, ⟨by (with_reducible repeat (first | apply Kd.V_alloc | apply Kd.V_drewN | apply Kd.V_drew)); exact HO_14.out⟩, ⟨by (with_reducible repeat (first | apply Kd.R_alloc | apply Kd.R_drewN | apply Kd.R_drew)); exact HO_15.out⟩, ⟨by (with_reducible repeat (first | apply Kd.V_alloc | apply Kd.V_drewN | apply Kd.V_drew)); exact HO_339001.out⟩, ⟨by (with_reducible repeat (first | refine blk_drewN ?_ _ | refine blk_drew ?_ | refine blk_alloc ?_ _)); exact BK338.out⟩, ⟨by repeat (first | (with_reducible first | exact HB.out | apply below_alloc | apply pw_below_drewN | apply below_drew1 | refine below_set ?_ GE338.out) | exact HB.out)⟩⟩
       case round =>
        clear H'
        try clear c1
        try clear c2
        try clear p2
        try clear c3
        try clear p3
        try clear q3
        try clear hx3
        try clear c6
        try clear c6b0
        try clear p6
        try clear c7
        try clear c7b0
        try clear c8
        try clear c28
        try clear c28b0
        try clear c28b1
        try clear c28b2
        try clear c29
        try clear c29b0
        try clear c29b1
        try clear c29b2
        try clear c32
        try clear p32
        try clear q32
        try clear hx32
        try clear hcz22_0
        try clear hcz22_1
        try clear hfz22_0
        try clear hfz22_1
        try clear hx324_0
        try clear hx324_1
        try clear hx324_2
        try clear hx324_3
        try clear hx324_4
        try clear hx324_5
        try clear p2
        try clear p3
        try clear p324
        try clear p6
        try clear q3
        try clear q324
        obtain ⟨x17_3, rfl, HA, HK3, HO_14, HO_15, HO_339001, BK338, HB⟩ := hrel
        cases gk with
        | zero => exact absurd HA.out (by simp [rickyardlaw27_LinRow.l1])
        | succ k3 =>
         have H := HA.out
         clear HA
         simp only [rickyardlaw27_LinRow.l1] at H
         by_cases c33 : x17_3 < (t342.length : Int)
         ·rw [if_pos c33] at H
          have c33b0 : decide (x17_3 < (t342.length : Int)) = true := decide_eq_true c33
          clear c33
          by_cases c34 : 0 ≤ x17_3
          ·rw [if_pos c34] at H
           have c34b0 : decide (0 ≤ x17_3) = true := decide_eq_true c34
           clear c34
           by_cases c35 : 0 ≤ (rd t342 x17_3)
           ·rw [if_pos c35] at H
            have c35b0 : decide (0 ≤ (rd t342 x17_3)) = true := decide_eq_true c35
            clear c35
            by_cases c36 : (rd t342 x17_3) < (t339.length : Int)
            ·rw [if_pos c36] at H
             have c36b0 : decide ((rd t342 x17_3) < (t339.length : Int)) = true := decide_eq_true c36
             clear c36
             obtain ⟨ji37, hji37⟩ : ∃ j_ : Int, (wrap64 (x17_3 - 1)) = j_ := ⟨_, rfl⟩
             replace H : (if 0 ≤ (ji37) then (if (ji37) < (t342.length : Int) then (if 0 ≤ (rd t342 (ji37)) then (if (rd t342 (ji37)) < (t339.length : Int) then (if ((rd_T40 t339 (rd t342 x17_3)).f1) ≤ ((rd_T40 t339 (rd t342 (ji37))).f2) then (some false) else (rickyardlaw27_LinRow.l1 k3 t339 t342 (wrap64 (x17_3 + 1)))) else (none)) else (none)) else (none)) else (none)) = some r := by first | (rw [hji37] at H; exact H) | (simp only [hji37] at H ⊢; exact H)
             have hji37w : (IntKind.i64.wrap (x17_3 - 1)) = ji37 := (i64_w _).trans hji37
             by_cases c38 : 0 ≤ (ji37)
             ·rw [if_pos c38] at H
              have c38b0 : decide (0 ≤ (ji37)) = true := decide_eq_true c38
              clear c38
              by_cases c39 : (ji37) < (t342.length : Int)
              ·rw [if_pos c39] at H
               have c39b0 : decide ((ji37) < (t342.length : Int)) = true := decide_eq_true c39
               clear c39
               by_cases c40 : 0 ≤ (rd t342 (ji37))
               ·rw [if_pos c40] at H
                have c40b0 : decide (0 ≤ (rd t342 (ji37))) = true := decide_eq_true c40
                clear c40
                by_cases c41 : (rd t342 (ji37)) < (t339.length : Int)
                ·rw [if_pos c41] at H
                 have c41b0 : decide ((rd t342 (ji37)) < (t339.length : Int)) = true := decide_eq_true c41
                 clear c41
                 by_cases c42 : ((rd_T40 t339 (rd t342 x17_3)).f1) ≤ ((rd_T40 t339 (rd t342 (ji37))).f2)
                 ·rw [if_pos c42] at H
                  have c42b0 : decide (((rd_T40 t339 (rd t342 x17_3)).f1) ≤ ((rd_T40 t339 (rd t342 (ji37))).f2)) = true := decide_eq_true c42
                  clear c42
                  obtain rfl := Option.some.inj H
                  obtain ⟨Ao43, co43, eo43⟩ := Kd.R_slice HO_15.out
                  subst eo43
                  have p346 : 0 ≤ (x17_3 : Int) := of_decide_eq_true (by first | (with_reducible assumption) | assumption)
                  have q346 : x17_3 < (t342.length : Int) := of_decide_eq_true (by first | (with_reducible assumption) | assumption)
                  obtain ⟨ad346, e346, hx346_0⟩ := Kd.at_int (Kd.R_reads' HO_15.out).2.2 x17_3 p346 q346
                  cases e346
                  replace p346 := eq_true p346
                  replace q346 := eq_true q346
                  have p347 : 0 ≤ ((rd t342 x17_3) : Int) := of_decide_eq_true (by first | (with_reducible assumption) | assumption)
                  have q347 : (rd t342 x17_3) < (t339.length : Int) := of_decide_eq_true (by first | (with_reducible assumption) | assumption)
                  obtain ⟨ad347, e347, hx347_0, hx347_1, hx347_2, hx347_3, hx347_4, hx347_5⟩ := at_T40 (Kd.V_reads' HO_14.out).2.2 (rd t342 x17_3) p347 q347
                  cases e347
                  replace p347 := eq_true p347
                  replace q347 := eq_true q347
                  have p348 : 0 ≤ ((ji37) : Int) := of_decide_eq_true (by first | (with_reducible assumption) | assumption)
                  have q348 : (ji37) < (t342.length : Int) := of_decide_eq_true (by first | (with_reducible assumption) | assumption)
                  obtain ⟨ad348, e348, hx348_0⟩ := Kd.at_int (Kd.R_reads' HO_15.out).2.2 (ji37) p348 q348
                  obtain rfl : ad346 = ad348 := (by injection e348)
                  replace p348 := eq_true p348
                  replace q348 := eq_true q348
                  have p349 : 0 ≤ ((rd t342 (ji37)) : Int) := of_decide_eq_true (by first | (with_reducible assumption) | assumption)
                  have q349 : (rd t342 (ji37)) < (t339.length : Int) := of_decide_eq_true (by first | (with_reducible assumption) | assumption)
                  obtain ⟨ad349, e349, hx349_0, hx349_1, hx349_2, hx349_3, hx349_4, hx349_5⟩ := at_T40 (Kd.V_reads' HO_14.out).2.2 (rd t342 (ji37)) p349 q349
                  obtain rfl : ad347 = ad349 := (by injection e349)
                  replace p349 := eq_true p349
                  replace q349 := eq_true q349
                  go_wp2
                  repeat (go_quiet (fail); try go_wp2)
                  go_ret
                  exact ⟨by first | rfl | (simp [errW_none, errW_some] <;> rfl) | (simp only [← hji37]; first | rfl | (simp [errW_none, errW_some] <;> rfl)) | (simp [*, errW_none, errW_some] <;> rfl), by repeat (first | (with_reducible first | exact HB.out | apply below_alloc | apply pw_below_drewN | apply below_drew1 | refine below_set ?_ GE338.out) | exact HB.out)⟩
                 ·rw [if_neg c42] at H
                  have c42b0 : decide (((rd_T40 t339 (rd t342 x17_3)).f1) ≤ ((rd_T40 t339 (rd t342 (ji37))).f2)) = false := decide_eq_false c42
                  clear c42
                  have H' := Aside0.mk H
                  clear H
                  obtain ⟨Ao44, co44, eo44⟩ := Kd.R_slice HO_15.out
                  subst eo44
                  have p346 : 0 ≤ (x17_3 : Int) := of_decide_eq_true (by first | (with_reducible assumption) | assumption)
                  have q346 : x17_3 < (t342.length : Int) := of_decide_eq_true (by first | (with_reducible assumption) | assumption)
                  obtain ⟨ad346, e346, hx346_0⟩ := Kd.at_int (Kd.R_reads' HO_15.out).2.2 x17_3 p346 q346
                  cases e346
                  replace p346 := eq_true p346
                  replace q346 := eq_true q346
                  have p347 : 0 ≤ ((rd t342 x17_3) : Int) := of_decide_eq_true (by first | (with_reducible assumption) | assumption)
                  have q347 : (rd t342 x17_3) < (t339.length : Int) := of_decide_eq_true (by first | (with_reducible assumption) | assumption)
                  obtain ⟨ad347, e347, hx347_0, hx347_1, hx347_2, hx347_3, hx347_4, hx347_5⟩ := at_T40 (Kd.V_reads' HO_14.out).2.2 (rd t342 x17_3) p347 q347
                  cases e347
                  replace p347 := eq_true p347
                  replace q347 := eq_true q347
                  have p348 : 0 ≤ ((ji37) : Int) := of_decide_eq_true (by first | (with_reducible assumption) | assumption)
                  have q348 : (ji37) < (t342.length : Int) := of_decide_eq_true (by first | (with_reducible assumption) | assumption)
                  obtain ⟨ad348, e348, hx348_0⟩ := Kd.at_int (Kd.R_reads' HO_15.out).2.2 (ji37) p348 q348
                  obtain rfl : ad346 = ad348 := (by injection e348)
                  replace p348 := eq_true p348
                  replace q348 := eq_true q348
                  have p349 : 0 ≤ ((rd t342 (ji37)) : Int) := of_decide_eq_true (by first | (with_reducible assumption) | assumption)
                  have q349 : (rd t342 (ji37)) < (t339.length : Int) := of_decide_eq_true (by first | (with_reducible assumption) | assumption)
                  obtain ⟨ad349, e349, hx349_0, hx349_1, hx349_2, hx349_3, hx349_4, hx349_5⟩ := at_T40 (Kd.V_reads' HO_14.out).2.2 (rd t342 (ji37)) p349 q349
                  obtain rfl : ad347 = ad349 := (by injection e349)
                  replace p349 := eq_true p349
                  replace q349 := eq_true q349
                  go_wp2
                  repeat (go_quiet (fail); try go_wp2)
                  go_roundg k3
                  case measure => have := HK1.out; have := HJ14.out; have := HK3.out; omega
                  case rel => exact ⟨(wrap64 (x17_3 + 1)), (by first | rfl | (simp; done) | (simp [*]; done)), H', ⟨by have := HK1.out; have := HJ14.out; have := HK3.out; omega⟩, ⟨by (with_reducible repeat (first | apply Kd.V_alloc | apply Kd.V_drewN | apply Kd.V_drew)); exact HO_14.out⟩, ⟨by (with_reducible repeat (first | apply Kd.R_alloc | apply Kd.R_drewN | apply Kd.R_drew)); exact HO_15.out⟩, ⟨by (with_reducible repeat (first | apply Kd.V_alloc | apply Kd.V_drewN | apply Kd.V_drew)); exact HO_339001.out⟩, ⟨by (with_reducible repeat (first | refine blk_drewN ?_ _ | refine blk_drew ?_ | refine blk_alloc ?_ _)); exact BK338.out⟩, ⟨by repeat (first | (with_reducible first | exact HB.out | apply below_alloc | apply pw_below_drewN | apply below_drew1 | refine below_set ?_ GE338.out) | exact HB.out)⟩⟩
                ·rw [if_neg c41] at H
                 exact absurd H (by simp)
               ·rw [if_neg c40] at H
                exact absurd H (by simp)
              ·rw [if_neg c39] at H
               exact absurd H (by simp)
             ·rw [if_neg c38] at H
              exact absurd H (by simp)
            ·rw [if_neg c36] at H
             exact absurd H (by simp)
           ·rw [if_neg c35] at H
            exact absurd H (by simp)
          ·rw [if_neg c34] at H
           exact absurd H (by simp)
         ·rw [if_neg c33] at H
          have c33b0 : decide (x17_3 < (t342.length : Int)) = false := decide_eq_false c33
          clear c33
          replace H := Option.bind_eq_some_iff.mp H
          obtain ⟨t350, A450, H⟩ := H
          replace H : (some t350) = some r := H
          have A45 := Aside0.mk A450
          clear A450
          obtain rfl := Option.some.inj H
          obtain ⟨Ao46, co46, eo46⟩ := Kd.R_slice HO_15.out
          subst eo46
          go_wp2_with (first | (go_at_call 9; (with_reducible refine (rickyardlaw27_awake.calls  t350 _ A45.out).mono ?_); rintro e w47 ⟨rfl, hb⟩; have n0_ := Aside0.mk (Kd.V_below (by (with_reducible repeat (first | apply Kd.V_alloc | apply Kd.V_drewN | apply Kd.V_drew)); exact HO_14.out) hb); have n1_ := Aside0.mk (Kd.R_below (by (with_reducible repeat (first | apply Kd.R_alloc | apply Kd.R_drewN | apply Kd.R_drew)); exact HO_15.out) hb); have n2_ := Aside0.mk (Kd.V_below (by (with_reducible repeat (first | apply Kd.V_alloc | apply Kd.V_drewN | apply Kd.V_drew)); exact HO_339001.out) hb); have n3_ := Aside0.mk (blk_below (g := gb338) (o := .cells #[.int .i64 t332, .slice Ao23 t333.length co23] 43 (0, 0)) (by (with_reducible repeat (first | refine blk_drewN ?_ _ | refine blk_drew ?_ | refine blk_alloc ?_ _)); exact BK338.out) hb); have n4_ := Aside0.mk (below_step (by repeat (first | (with_reducible first | exact HB.out | apply below_alloc | apply pw_below_drewN | apply below_drew1 | refine below_set ?_ GE338.out) | exact HB.out)) hb); clear HO_14; clear HO_15; clear HO_339001; clear BK338; clear HB; have HO_14 := n0_; have HO_15 := n1_; have HO_339001 := n2_; have BK338 := n3_; have HB := n4_; clear n0_ n1_ n2_ n3_ n4_; (try clear hb); (try clear hb2); (try clear hk); (try clear hi)))
          repeat (go_quiet (first | (go_at_call 9; (with_reducible refine (rickyardlaw27_awake.calls  t350 _ A45.out).mono ?_); rintro e w47 ⟨rfl, hb⟩; have n0_ := Aside0.mk (Kd.V_below (by (with_reducible repeat (first | apply Kd.V_alloc | apply Kd.V_drewN | apply Kd.V_drew)); exact HO_14.out) hb); have n1_ := Aside0.mk (Kd.R_below (by (with_reducible repeat (first | apply Kd.R_alloc | apply Kd.R_drewN | apply Kd.R_drew)); exact HO_15.out) hb); have n2_ := Aside0.mk (Kd.V_below (by (with_reducible repeat (first | apply Kd.V_alloc | apply Kd.V_drewN | apply Kd.V_drew)); exact HO_339001.out) hb); have n3_ := Aside0.mk (blk_below (g := gb338) (o := .cells #[.int .i64 t332, .slice Ao23 t333.length co23] 43 (0, 0)) (by (with_reducible repeat (first | refine blk_drewN ?_ _ | refine blk_drew ?_ | refine blk_alloc ?_ _)); exact BK338.out) hb); have n4_ := Aside0.mk (below_step (by repeat (first | (with_reducible first | exact HB.out | apply below_alloc | apply pw_below_drewN | apply below_drew1 | refine below_set ?_ GE338.out) | exact HB.out)) hb); clear HO_14; clear HO_15; clear HO_339001; clear BK338; clear HB; have HO_14 := n0_; have HO_15 := n1_; have HO_339001 := n2_; have BK338 := n3_; have HB := n4_; clear n0_ n1_ n2_ n3_ n4_; (try clear hb); (try clear hb2); (try clear hk); (try clear hi))); try go_wp2_with (first | (go_at_call 9; (with_reducible refine (rickyardlaw27_awake.calls  t350 _ A45.out).mono ?_); rintro e w47 ⟨rfl, hb⟩; have n0_ := Aside0.mk (Kd.V_below (by (with_reducible repeat (first | apply Kd.V_alloc | apply Kd.V_drewN | apply Kd.V_drew)); exact HO_14.out) hb); have n1_ := Aside0.mk (Kd.R_below (by (with_reducible repeat (first | apply Kd.R_alloc | apply Kd.R_drewN | apply Kd.R_drew)); exact HO_15.out) hb); have n2_ := Aside0.mk (Kd.V_below (by (with_reducible repeat (first | apply Kd.V_alloc | apply Kd.V_drewN | apply Kd.V_drew)); exact HO_339001.out) hb); have n3_ := Aside0.mk (blk_below (g := gb338) (o := .cells #[.int .i64 t332, .slice Ao23 t333.length co23] 43 (0, 0)) (by (with_reducible repeat (first | refine blk_drewN ?_ _ | refine blk_drew ?_ | refine blk_alloc ?_ _)); exact BK338.out) hb); have n4_ := Aside0.mk (below_step (by repeat (first | (with_reducible first | exact HB.out | apply below_alloc | apply pw_below_drewN | apply below_drew1 | refine below_set ?_ GE338.out) | exact HB.out)) hb); clear HO_14; clear HO_15; clear HO_339001; clear BK338; clear HB; have HO_14 := n0_; have HO_15 := n1_; have HO_339001 := n2_; have BK338 := n3_; have HB := n4_; clear n0_ n1_ n2_ n3_ n4_; (try clear hb); (try clear hb2); (try clear hk); (try clear hi))))
          go_ret
          exact ⟨by first | rfl | (simp [errW_none, errW_some] <;> rfl) | (simp [*, errW_none, errW_some] <;> rfl), by repeat (first | (with_reducible first | exact HB.out | apply below_alloc | apply pw_below_drewN | apply below_drew1 | refine below_set ?_ GE338.out) | exact HB.out)⟩

/-- THE ONE PURE STATEMENT of rickyardlaw27_LinRow: yours. -/
def rickyardlaw27_LinRow.Pure : Prop := ∀ (a0 : Int) (l1 : List Int) (a2 : Int), (Lit.int .u16 a0).wf = true → l1.length ≤ maxLen → l1.length * 1 ≤ 140737488351232 → (∀ x ∈ l1, (Lit.int .u8 x).wf = true) → (Lit.int .u8 a2).wf = true → ∃ k, rickyardlaw27_LinRow.f k a0 l1 a2 = some true
theorem rickyardlaw27_LinRow.walk (P : rickyardlaw27_LinRow.Pure) (a0 : Int) (a1 : Option Addr) (len1 cap1 : Nat) (z1 : List Int) (a2 : Int) (w : World) (w0 : (Lit.int .u16 a0).wf = true) (w1 : (a1 = none ∧ len1 = 0 ∧ cap1 = 0 ∧ z1 = []) ∨ ∃ x, a1 = some x ∧ len1 ≤ cap1 ∧ cap1 ≤ maxLen ∧ z1.length = cap1 ∧ (∀ i, i < z1.length → w.cell? (x.add i) = some (.int .u8 (z1.getD i 0))) ∧ ∀ n ∈ z1, (Lit.int .u8 n).wf = true) (y1 : len1 * 1 ≤ 140737488351232) (w2 : (Lit.int .u8 a2).wf = true) :
  Calls Try.prog 6 #[.int .u16 a0, .slice a1 len1 cap1, .int .u8 a2] w fun e w' => e = .returned (.bool true) ∧ Below w.heap.size w w' := by
 obtain ⟨l1, rfl, hr1, hm1, hw1, hc1⟩ := ReadsInt.ofRowC w1
 obtain ⟨k, h⟩ := P a0 l1 a2 w0 hm1 y1 hw1 w2
 refine (rickyardlaw27_LinRow.calls k a0 _ _ l1 a2 true w (Kd.C_of_reads (d := (0 : Int)) (h1 := fun _ => rfl) hr1) hc1 h).mono ?_
 rintro e w' ⟨rfl, hd⟩
 exact ⟨rfl, hd⟩

end Go.Proofs.Ytpddppipjlagfaa.Pr
