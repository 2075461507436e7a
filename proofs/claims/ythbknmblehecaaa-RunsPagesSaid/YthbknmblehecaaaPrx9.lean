-- Printed by a program of this session (wip/tools/myprint.py) that runs the kit's print with contracts of this session's own.
import Derived.Test.YthbknmblehecaaaPrx0
import Derived.Test.YthbknmblehecaaaPrx3
import Derived.Test.YthbknmblehecaaaPrx4
import Derived.Test.YthbknmblehecaaaPrx5
import Derived.Test.YthbknmblehecaaaPrx8
namespace Go.Proofs.Ythbknmblehecaaa.Pr
open Go.RowKit Go.Proofs.YthbknmblehecaaaW.PrintWords Go.Proofs.YthbknmblehecaaaW.PrintLast Go.Proofs.YthbknmblehecaaaW.PrintMore
attribute [local go_sem] max2_int min2_int max_two min_two max_three min_three max_four min_four   -- for this text's walks alone
set_option linter.unusedVariables false
set_option linter.unusedSimpArgs false

/-! ### rickyardlaw5_RunsPages: function 5 -/
mutual
def rickyardlaw5_RunsPages.l0 : Nat → List (S32) → Int → List (S32) → Int → Int → List (S32) → Int → Int → Int → Int → Option (Bool)
 | 0, _, _, _, _, _, _, _, _, _, _ => none
 | k + 1, x9, x10, x11, x12, x13, x15, x16, x17, x279000, x279001 => if x17 < 256 then ((runs_Has.f x9 x17).bind fun t289 => (if x17 ≥ x12 then (rickyardlaw5_RunsPages.j1 k x9 x10 x11 x12 x13 x15 x16 x17 t289 (decide (x17 < (wrap64 (x12 + x10)))) x279000 x279001) else (rickyardlaw5_RunsPages.j1 k x9 x10 x11 x12 x13 x15 x16 x17 t289 false x279000 x279001))) else (if x13 = 0 then (if x16 = 0 then ((rickyardlaw5_awake.f k).bind fun t283 => (some t283)) else (if x16 = 4 then ((rickyardlaw5_awake.f k).bind fun t284 => (some t284)) else (if x16 = 1 then (if x279001 > (wrap64 (256 - x279000)) then ((rickyardlaw5_awake.f k).bind fun t285 => (some t285)) else (some false)) else (some false)))) else (if x13 = 3 then (if x16 = 0 then ((rickyardlaw5_awake.f k).bind fun t286 => (some t286)) else (if x16 = 4 then ((rickyardlaw5_awake.f k).bind fun t287 => (some t287)) else (if x16 = 1 then (if x279001 > (wrap64 (256 - x279000)) then ((rickyardlaw5_awake.f k).bind fun t288 => (some t288)) else (some false)) else (some false)))) else (some false)))
def rickyardlaw5_RunsPages.j1 : Nat → List (S32) → Int → List (S32) → Int → Int → List (S32) → Int → Int → Bool → Bool → Int → Int → Option (Bool)
 | 0, _, _, _, _, _, _, _, _, _, _, _, _ => none
 | k + 1, x9, x10, x11, x12, x13, x15, x16, x17, x18, x19, x279000, x279001 => if x13 = 0 then ((runs_Has.f x11 x17).bind fun t290 => (if x18 = true then (if (t290 != (!x19)) = true then (rickyardlaw5_RunsPages.j2 k x9 x10 x11 x12 x13 x15 x16 x17 x18 true x279000 x279001) else (if x19 = true then (rickyardlaw5_RunsPages.j2 k x9 x10 x11 x12 x13 x15 x16 x17 x18 (!x18) x279000 x279001) else (rickyardlaw5_RunsPages.j2 k x9 x10 x11 x12 x13 x15 x16 x17 x18 false x279000 x279001))) else (if (t290 != false) = true then (rickyardlaw5_RunsPages.j2 k x9 x10 x11 x12 x13 x15 x16 x17 x18 true x279000 x279001) else (if x19 = true then (rickyardlaw5_RunsPages.j2 k x9 x10 x11 x12 x13 x15 x16 x17 x18 (!x18) x279000 x279001) else (rickyardlaw5_RunsPages.j2 k x9 x10 x11 x12 x13 x15 x16 x17 x18 false x279000 x279001))))) else (rickyardlaw5_RunsPages.j2 k x9 x10 x11 x12 x13 x15 x16 x17 x18 false x279000 x279001)
def rickyardlaw5_RunsPages.j2 : Nat → List (S32) → Int → List (S32) → Int → Int → List (S32) → Int → Int → Bool → Bool → Int → Int → Option (Bool)
 | 0, _, _, _, _, _, _, _, _, _, _, _, _ => none
 | k + 1, x9, x10, x11, x12, x13, x15, x16, x17, x18, x83, x279000, x279001 => if x83 = true then (some false) else (if x17 ≥ x279000 then (if x16 = 0 then ((runs_Has.f x15 x17).bind fun t291 => (if x18 = true then (if (t291 != true) = true then (some false) else (if x17 < (wrap64 (x279000 + x279001)) then (some false) else (rickyardlaw5_RunsPages.l0 k x9 x10 x11 x12 x13 x15 x16 (wrap64 (x17 + 1)) x279000 x279001))) else (if (t291 != (decide (x17 < (wrap64 (x279000 + x279001))))) = true then (some false) else (if x17 < (wrap64 (x279000 + x279001)) then (rickyardlaw5_RunsPages.l0 k x9 x10 x11 x12 x13 x15 x16 (wrap64 (x17 + 1)) x279000 x279001) else (rickyardlaw5_RunsPages.l0 k x9 x10 x11 x12 x13 x15 x16 (wrap64 (x17 + 1)) x279000 x279001))))) else (rickyardlaw5_RunsPages.l0 k x9 x10 x11 x12 x13 x15 x16 (wrap64 (x17 + 1)) x279000 x279001)) else (if x16 = 0 then ((runs_Has.f x15 x17).bind fun t292 => (if x18 = true then (if (t292 != true) = true then (some false) else (rickyardlaw5_RunsPages.l0 k x9 x10 x11 x12 x13 x15 x16 (wrap64 (x17 + 1)) x279000 x279001)) else (if (t292 != false) = true then (some false) else (rickyardlaw5_RunsPages.l0 k x9 x10 x11 x12 x13 x15 x16 (wrap64 (x17 + 1)) x279000 x279001)))) else (rickyardlaw5_RunsPages.l0 k x9 x10 x11 x12 x13 x15 x16 (wrap64 (x17 + 1)) x279000 x279001)))
end
def rickyardlaw5_RunsPages.f (k : Nat) (l0 : List Int) (a1 : Int) (a2 : Int) (a3 : Int) : Option (Bool) := (rickyardlaw5_Made.f k l0).bind fun t270 => ((runs_Take.f t270 (wrap64 (1 + (Int.tmod (wrap64 (a1)) 24)))).bind fun bt273 => ((runs_Put.f k t270 (wrap64 (a2)) (wrap64 (1 + (Int.tmod (wrap64 (a3)) 24)))).bind fun bt279 => (rickyardlaw5_RunsPages.l0 k t270 (wrap64 (1 + (Int.tmod (wrap64 (a1)) 24))) bt273.1 bt273.2.1 bt273.2.2 bt279.1 bt279.2 0 (wrap64 (a2)) (wrap64 (1 + (Int.tmod (wrap64 (a3)) 24))))))
theorem rickyardlaw5_RunsPages.mono_l : ∀ k, (∀ y0 y1 y2 y3 y4 y5 y6 y7 y8 y9, LeO (rickyardlaw5_RunsPages.l0 k y0 y1 y2 y3 y4 y5 y6 y7 y8 y9) (rickyardlaw5_RunsPages.l0 (k + 1) y0 y1 y2 y3 y4 y5 y6 y7 y8 y9)) ∧ (∀ y0 y1 y2 y3 y4 y5 y6 y7 y8 y9 y10 y11, LeO (rickyardlaw5_RunsPages.j1 k y0 y1 y2 y3 y4 y5 y6 y7 y8 y9 y10 y11) (rickyardlaw5_RunsPages.j1 (k + 1) y0 y1 y2 y3 y4 y5 y6 y7 y8 y9 y10 y11)) ∧ (∀ y0 y1 y2 y3 y4 y5 y6 y7 y8 y9 y10 y11, LeO (rickyardlaw5_RunsPages.j2 k y0 y1 y2 y3 y4 y5 y6 y7 y8 y9 y10 y11) (rickyardlaw5_RunsPages.j2 (k + 1) y0 y1 y2 y3 y4 y5 y6 y7 y8 y9 y10 y11))
 | 0 => ⟨fun _ _ _ _ _ _ _ _ _ _ r h => by simp [rickyardlaw5_RunsPages.l0] at h, fun _ _ _ _ _ _ _ _ _ _ _ _ r h => by simp [rickyardlaw5_RunsPages.j1] at h, fun _ _ _ _ _ _ _ _ _ _ _ _ r h => by simp [rickyardlaw5_RunsPages.j2] at h⟩
 | k + 1 => by
  obtain ⟨ih0, ih1, ih2⟩ := rickyardlaw5_RunsPages.mono_l k
  refine ⟨?_, ?_, ?_⟩
  ·intro y0 y1 y2 y3 y4 y5 y6 y7 y8 y9
   unfold rickyardlaw5_RunsPages.l0
   repeat' first
   | (with_reducible exact ih0 _ _ _ _ _ _ _ _ _ _)
   | (with_reducible exact ih1 _ _ _ _ _ _ _ _ _ _ _ _)
   | (with_reducible exact ih2 _ _ _ _ _ _ _ _ _ _ _ _)
   | (with_reducible exact rickyardlaw5_Made.mono _ _)
   | (with_reducible exact rickyardlaw5_awake.mono _)
   | (with_reducible exact runs_Put.mono _ _ _ _)
   | (with_reducible exact LeO.refl _)
   | (with_reducible exact LeO.none _)
   | (with_reducible refine LeO.ite ?_ ?_)
   | (with_reducible refine LeO.bind ?_ (fun _ => ?_))
   | exact ih0 _ _ _ _ _ _ _ _ _ _
   | exact ih1 _ _ _ _ _ _ _ _ _ _ _ _
   | exact ih2 _ _ _ _ _ _ _ _ _ _ _ _
   | exact rickyardlaw5_Made.mono _ _
   | exact rickyardlaw5_awake.mono _
   | exact runs_Put.mono _ _ _ _
   | exact LeO.none _
   | refine LeO.ite ?_ ?_
   | refine LeO.bind ?_ (fun _ => ?_)
  ·intro y0 y1 y2 y3 y4 y5 y6 y7 y8 y9 y10 y11
   unfold rickyardlaw5_RunsPages.j1
   repeat' first
   | (with_reducible exact ih0 _ _ _ _ _ _ _ _ _ _)
   | (with_reducible exact ih1 _ _ _ _ _ _ _ _ _ _ _ _)
   | (with_reducible exact ih2 _ _ _ _ _ _ _ _ _ _ _ _)
   | (with_reducible exact rickyardlaw5_Made.mono _ _)
   | (with_reducible exact rickyardlaw5_awake.mono _)
   | (with_reducible exact runs_Put.mono _ _ _ _)
   | (with_reducible exact LeO.refl _)
   | (with_reducible exact LeO.none _)
   | (with_reducible refine LeO.ite ?_ ?_)
   | (with_reducible refine LeO.bind ?_ (fun _ => ?_))
   | exact ih0 _ _ _ _ _ _ _ _ _ _
   | exact ih1 _ _ _ _ _ _ _ _ _ _ _ _
   | exact ih2 _ _ _ _ _ _ _ _ _ _ _ _
   | exact rickyardlaw5_Made.mono _ _
   | exact rickyardlaw5_awake.mono _
   | exact runs_Put.mono _ _ _ _
   | exact LeO.none _
   | refine LeO.ite ?_ ?_
   | refine LeO.bind ?_ (fun _ => ?_)
  ·intro y0 y1 y2 y3 y4 y5 y6 y7 y8 y9 y10 y11
   unfold rickyardlaw5_RunsPages.j2
   repeat' first
   | (with_reducible exact ih0 _ _ _ _ _ _ _ _ _ _)
   | (with_reducible exact ih1 _ _ _ _ _ _ _ _ _ _ _ _)
   | (with_reducible exact ih2 _ _ _ _ _ _ _ _ _ _ _ _)
   | (with_reducible exact rickyardlaw5_Made.mono _ _)
   | (with_reducible exact rickyardlaw5_awake.mono _)
   | (with_reducible exact runs_Put.mono _ _ _ _)
   | (with_reducible exact LeO.refl _)
   | (with_reducible exact LeO.none _)
   | (with_reducible refine LeO.ite ?_ ?_)
   | (with_reducible refine LeO.bind ?_ (fun _ => ?_))
   | exact ih0 _ _ _ _ _ _ _ _ _ _
   | exact ih1 _ _ _ _ _ _ _ _ _ _ _ _
   | exact ih2 _ _ _ _ _ _ _ _ _ _ _ _
   | exact rickyardlaw5_Made.mono _ _
   | exact rickyardlaw5_awake.mono _
   | exact runs_Put.mono _ _ _ _
   | exact LeO.none _
   | refine LeO.ite ?_ ?_
   | refine LeO.bind ?_ (fun _ => ?_)
theorem rickyardlaw5_RunsPages.mono : ∀ a0 a1 a2 a3 k, LeO (rickyardlaw5_RunsPages.f k a0 a1 a2 a3) (rickyardlaw5_RunsPages.f (k + 1) a0 a1 a2 a3) := by
 intro a0 a1 a2 a3 k
 obtain ⟨ih0, ih1, ih2⟩ := rickyardlaw5_RunsPages.mono_l k
 unfold rickyardlaw5_RunsPages.f
 repeat' first
   | (with_reducible exact ih0 _ _ _ _ _ _ _ _ _ _)
   | (with_reducible exact ih1 _ _ _ _ _ _ _ _ _ _ _ _)
   | (with_reducible exact ih2 _ _ _ _ _ _ _ _ _ _ _ _)
   | (with_reducible exact rickyardlaw5_Made.mono _ _)
   | (with_reducible exact rickyardlaw5_awake.mono _)
   | (with_reducible exact runs_Put.mono _ _ _ _)
   | (with_reducible exact LeO.refl _)
   | (with_reducible exact LeO.none _)
   | (with_reducible refine LeO.ite ?_ ?_)
   | (with_reducible refine LeO.bind ?_ (fun _ => ?_))
   | exact ih0 _ _ _ _ _ _ _ _ _ _
   | exact ih1 _ _ _ _ _ _ _ _ _ _ _ _
   | exact ih2 _ _ _ _ _ _ _ _ _ _ _ _
   | exact rickyardlaw5_Made.mono _ _
   | exact rickyardlaw5_awake.mono _
   | exact runs_Put.mono _ _ _ _
   | exact LeO.none _
   | refine LeO.ite ?_ ?_
   | refine LeO.bind ?_ (fun _ => ?_)
set_option maxHeartbeats 8000000 in
set_option maxRecDepth 100000 in
theorem rickyardlaw5_RunsPages.calls (k : Nat) (A0 : Option Addr) (c0 : Nat) (l0 : List Int) (a1 : Int) (a2 : Int) (a3 : Int) (r : Bool) (w : World) (hr0 : Kd.C (Kd.int .u8) w A0 l0.length l0) (hc0 : l0.length ≤ c0) (h : rickyardlaw5_RunsPages.f k l0 a1 a2 a3 = some r) :
  Calls Try.prog 5 #[.slice A0 l0.length c0, .int .u8 a1, .int .u8 a2, .int .u8 a3] w fun e w' => e = .returned (.bool r) ∧ Below w.heap.size w w' := by
 have hu32 := Try.underlying32
 have HR0 := Aside0.mk hr0
 have HC0 := Aside0.mk hc0
 clear hr0 hc0
 have HB := Aside0.mk (Below.refl w.heap.size w)
 have H : ((rickyardlaw5_Made.f k l0).bind fun t270 => ((runs_Take.f t270 (wrap64 (1 + (Int.tmod (wrap64 (a1)) 24)))).bind fun bt273 => ((runs_Put.f k t270 (wrap64 (a2)) (wrap64 (1 + (Int.tmod (wrap64 (a3)) 24)))).bind fun bt279 => (rickyardlaw5_RunsPages.l0 k t270 (wrap64 (1 + (Int.tmod (wrap64 (a1)) 24))) bt273.1 bt273.2.1 bt273.2.2 bt279.1 bt279.2 0 (wrap64 (a2)) (wrap64 (1 + (Int.tmod (wrap64 (a3)) 24))))))) = some r := h
 clear h
 replace H := Option.bind_eq_some_iff.mp H
 obtain ⟨t270, A50, H⟩ := H
 replace H : ((runs_Take.f t270 (wrap64 (1 + (Int.tmod (wrap64 (a1)) 24)))).bind fun bt273 => ((runs_Put.f k t270 (wrap64 (a2)) (wrap64 (1 + (Int.tmod (wrap64 (a3)) 24)))).bind fun bt279 => (rickyardlaw5_RunsPages.l0 k t270 (wrap64 (1 + (Int.tmod (wrap64 (a1)) 24))) bt273.1 bt273.2.1 bt273.2.2 bt279.1 bt279.2 0 (wrap64 (a2)) (wrap64 (1 + (Int.tmod (wrap64 (a3)) 24)))))) = some r := H
 have A5 := Aside0.mk A50
 clear A50
 replace H := Option.bind_eq_some_iff.mp H
 obtain ⟨⟨t273, t274, t275⟩, A60, H⟩ := H
 replace H : ((runs_Put.f k t270 (wrap64 (a2)) (wrap64 (1 + (Int.tmod (wrap64 (a3)) 24)))).bind fun bt279 => (rickyardlaw5_RunsPages.l0 k t270 (wrap64 (1 + (Int.tmod (wrap64 (a1)) 24))) t273 t274 t275 bt279.1 bt279.2 0 (wrap64 (a2)) (wrap64 (1 + (Int.tmod (wrap64 (a3)) 24))))) = some r := H
 have A6 := Aside0.mk A60
 clear A60
 replace H := Option.bind_eq_some_iff.mp H
 obtain ⟨⟨t279, t282⟩, A70, H⟩ := H
 replace H : (rickyardlaw5_RunsPages.l0 k t270 (wrap64 (1 + (Int.tmod (wrap64 (a1)) 24))) t273 t274 t275 t279 t282 0 (wrap64 (a2)) (wrap64 (1 + (Int.tmod (wrap64 (a3)) 24)))) = some r := H
 have A7 := Aside0.mk A70
 clear A70
 have H' := Aside0.mk H
 clear H
 go_enter Try.func5, Try.ntmps5
 go_wp2_with (first | ((with_reducible refine gate_callee (f := 13) rfl ?_); refine goesL_ (some 22) rfl rfl Try.func13 (by kernel_rfl) rfl #[.slice A0 l0.length c0] rfl (by (try simp only [List.map_toArray, List.map_cons, List.map_nil]); first | done | rfl | (simp only [List.length_drop, List.length_take]; rfl)) ?_; (with_reducible refine (rickyardlaw5_Made.calls k _ _ l0 t270 _ ?side1 ?side2 A5.out).mono ?_); (case side1 => repeat (first | exact HR0.out | (with_reducible refine Kd.C_alloc ?_ _) | (with_reducible refine Kd.C_drewN ?_ _) | (with_reducible refine Kd.C_drew ?_))); (case side2 => exact HC0.out); rintro e w8 ⟨v271, rfl, ho0, hb⟩; refine ⟨_, rfl, ?_⟩; have n0_ := Aside0.mk (Kd.R_lower ho0 (below_size (by repeat (first | (with_reducible first | exact HB.out | apply below_alloc | apply pw_below_drewN | apply below_drew1) | exact HB.out)))); have n1_ := Aside0.mk (below_step (by repeat (first | (with_reducible first | exact HB.out | apply below_alloc | apply pw_below_drewN | apply below_drew1) | exact HB.out)) hb); clear HB; have HO272 := n0_; have HB := n1_; clear n0_ n1_; (try clear hb); (try clear hb2); (try clear hk); (try clear hi); (try clear ho0); obtain ⟨Ao9, co9, eo9⟩ := Kd.R_slice HO272.out; subst eo9) | ((with_reducible refine gate_callee (f := 15) rfl ?_); refine goesL_ (some 30) rfl rfl Try.func15 (by kernel_rfl) rfl #[.slice Ao9 t270.length co9, .int .i64 (wrap64 (1 + (Int.tmod (wrap64 (a1)) 24)))] rfl (by (try simp only [List.map_toArray, List.map_cons, List.map_nil]); first | done | rfl | (simp only [List.length_drop, List.length_take]; rfl)) ?_; (with_reducible refine (runs_Take.calls _ _ t270 (wrap64 (1 + (Int.tmod (wrap64 (a1)) 24))) t273 t274 t275 _ ?side1 ?side2 A6.out).mono ?_); (case side1 => repeat (first | exact (Kd.R_reads' HO272.out).2.2 | (with_reducible refine Kd.C_alloc ?_ _) | (with_reducible refine Kd.C_drewN ?_ _) | (with_reducible refine Kd.C_drew ?_))); (case side2 => exact (Kd.R_reads' HO272.out).2.1); rintro e w10 ⟨v276, rfl, ho0, hb⟩; refine ⟨_, rfl, ?_⟩; have n0_ := Aside0.mk (Kd.R_elder' (by (with_reducible repeat (first | apply Kd.R_alloc | apply Kd.R_drewN | apply Kd.R_drew)); exact HO272.out) (Kd.R_base ho0) hb); have n1_ := Aside0.mk (Kd.R_lower (Kd.R_new' ho0 (Kd.R_lt (by (with_reducible repeat (first | apply Kd.R_alloc | apply Kd.R_drewN | apply Kd.R_drew)); exact HO272.out))) (below_size (by repeat (first | (with_reducible first | exact HB.out | apply below_alloc | apply pw_below_drewN | apply below_drew1) | exact HB.out)))); have n2_ := Aside0.mk (below_step (by repeat (first | (with_reducible first | exact HB.out | apply below_alloc | apply pw_below_drewN | apply below_drew1) | exact HB.out)) hb); clear HO272; clear HB; have HO272 := n0_; have HO277 := n1_; have HB := n2_; clear n0_ n1_ n2_; (try clear hb); (try clear hb2); (try clear hk); (try clear hi); (try clear ho0)) | ((with_reducible refine gate_dst (N := 14) rfl ?_); refine box_event ?hg (N := 14) ?hd (cs := #[.int .i64 0, .int .i64 0]) (t := 32) ?hr ?_; (case hd => rfl); (case hg => rfl); (case hr => first | (go_simp; done) | (go_simp; rfl)); intro gb278 hg w11 hbox hb; have n0_ := Aside0.mk (Kd.R_below (Kd.R_elderB (by (with_reducible repeat (first | apply Kd.R_alloc | apply Kd.R_drewN | apply Kd.R_drew)); exact HO272.out) gb278 (Nat.le_of_eq hg.symm)) hb); have n1_ := Aside0.mk (Kd.R_below (Kd.R_elderB (by (with_reducible repeat (first | apply Kd.R_alloc | apply Kd.R_drewN | apply Kd.R_drew)); exact HO277.out) gb278 (Nat.le_of_eq hg.symm)) hb); have n2_ := Aside0.mk (below_step (by repeat (first | (with_reducible first | exact HB.out | apply below_alloc | apply pw_below_drewN | apply below_drew1) | exact HB.out)) hb); have n3_ := Aside0.mk (hbox); have n4_ := Aside0.mk ((by rw [hg]; exact (below_size (by repeat (first | (with_reducible first | exact HB.out | apply below_alloc | apply pw_below_drewN | apply below_drew1) | exact HB.out))) : w.heap.size ≤ gb278)); have n5_ := Aside0.mk ((by rw [hg]; exact (below_size (by repeat (first | (with_reducible first | exact HB.out | apply below_alloc | apply pw_below_drewN | apply below_drew1) | exact HB.out))) : w.heap.size ≤ gb278)); clear HO272; clear HO277; clear HB; have HO272 := n0_; have HO277 := n1_; have HB := n2_; have BK278 := n3_; have GW278 := n4_; have GE278 := n5_; clear n0_ n1_ n2_ n3_ n4_ n5_; clear hb hbox hg; have hcz12_0 : w11.cell? ⟨gb278, 0, none⟩ = some (.int .i64 0) := (blk_cell BK278.out 0).trans rfl; have hcz12_1 : w11.cell? ⟨gb278, 1, none⟩ = some (.int .i64 0) := (blk_cell BK278.out 1).trans rfl; have hfz12_0 := blk_frozen BK278.out 0; have hfz12_1 := blk_frozen BK278.out 1) | ((with_reducible refine gate_callee (f := 18) rfl ?_); refine goesL_ (some 44) rfl rfl Try.func18 (by kernel_rfl) rfl #[.slice Ao9 t270.length co9, .agg #[.int .i64 (wrap64 (a2)), .int .i64 (wrap64 (1 + (Int.tmod (wrap64 (a3)) 24)))]] rfl (by (try simp only [List.map_toArray, List.map_cons, List.map_nil]); first | done | rfl | (simp only [List.length_drop, List.length_take]; rfl)) ?_; (with_reducible refine (runs_Put.calls k _ _ t270 (wrap64 (a2)) (wrap64 (1 + (Int.tmod (wrap64 (a3)) 24))) t279 t282 _ ?side1 ?side2 A7.out).mono ?_); (case side1 => refine (Kd.R_reads' (e := 32) (base := w.heap.size) (ok := fun k_ => ((True ∧ some k_ ≠ (v276 : Value).ownBlock) ∧ k_ ≠ gb278)) (n := t270.length) (c := co9) ?_).2.2; exact (by (with_reducible repeat (first | apply Kd.R_alloc | apply Kd.R_drewN | apply Kd.R_drew)); exact (Kd.R_mono (Kd.R_far (p := ⟨gb278, 1, none⟩) (Kd.R_far (p := ⟨gb278, 0, none⟩) (Kd.R_mono HO272.out (fun k_ hk => (⟨hk, hk.2⟩ : _ ∧ k_ ≠ gb278))) (fun _ hk => hk.2) (.int .i64 (wrap64 (a2)))) (fun _ hk => hk.2) (.int .i64 (wrap64 (1 + (Int.tmod (wrap64 (a3)) 24))))) (fun _ h_ => h_.1)))); (case side2 => exact (Kd.R_reads' HO272.out).2.1); rintro e w13 ⟨v280, rfl, ho0, hb⟩; refine ⟨_, rfl, ?_⟩; have n0_ := Aside0.mk (Kd.R_elder' (by (with_reducible repeat (first | apply Kd.R_alloc | apply Kd.R_drewN | apply Kd.R_drew)); exact (Kd.R_mono (Kd.R_far (p := ⟨gb278, 1, none⟩) (Kd.R_far (p := ⟨gb278, 0, none⟩) (Kd.R_mono HO272.out (fun k_ hk => (⟨hk, hk.2⟩ : _ ∧ k_ ≠ gb278))) (fun _ hk => hk.2) (.int .i64 (wrap64 (a2)))) (fun _ hk => hk.2) (.int .i64 (wrap64 (1 + (Int.tmod (wrap64 (a3)) 24))))) (fun _ h_ => h_.1))) (Kd.R_base ho0) hb); have n1_ := Aside0.mk (Kd.R_elder' (by (with_reducible repeat (first | apply Kd.R_alloc | apply Kd.R_drewN | apply Kd.R_drew)); exact (Kd.R_mono (Kd.R_far (p := ⟨gb278, 1, none⟩) (Kd.R_far (p := ⟨gb278, 0, none⟩) (Kd.R_mono HO277.out (fun k_ hk => (⟨hk, hk.2⟩ : _ ∧ k_ ≠ gb278))) (fun _ hk => hk.2) (.int .i64 (wrap64 (a2)))) (fun _ hk => hk.2) (.int .i64 (wrap64 (1 + (Int.tmod (wrap64 (a3)) 24))))) (fun _ h_ => h_.1))) (Kd.R_base ho0) hb); have n2_ := Aside0.mk (Kd.R_lower (Kd.R_newB (Kd.R_new' (Kd.R_new' ho0 (Kd.R_lt (by (with_reducible repeat (first | apply Kd.R_alloc | apply Kd.R_drewN | apply Kd.R_drew)); exact (Kd.R_mono (Kd.R_far (p := ⟨gb278, 1, none⟩) (Kd.R_far (p := ⟨gb278, 0, none⟩) (Kd.R_mono HO272.out (fun k_ hk => (⟨hk, hk.2⟩ : _ ∧ k_ ≠ gb278))) (fun _ hk => hk.2) (.int .i64 (wrap64 (a2)))) (fun _ hk => hk.2) (.int .i64 (wrap64 (1 + (Int.tmod (wrap64 (a3)) 24))))) (fun _ h_ => h_.1))))) (Kd.R_lt (by (with_reducible repeat (first | apply Kd.R_alloc | apply Kd.R_drewN | apply Kd.R_drew)); exact (Kd.R_mono (Kd.R_far (p := ⟨gb278, 1, none⟩) (Kd.R_far (p := ⟨gb278, 0, none⟩) (Kd.R_mono HO277.out (fun k_ hk => (⟨hk, hk.2⟩ : _ ∧ k_ ≠ gb278))) (fun _ hk => hk.2) (.int .i64 (wrap64 (a2)))) (fun _ hk => hk.2) (.int .i64 (wrap64 (1 + (Int.tmod (wrap64 (a3)) 24))))) (fun _ h_ => h_.1))))) (g := gb278) (o := .cells #[.int .i64 (wrap64 (a2)), .int .i64 (wrap64 (1 + (Int.tmod (wrap64 (a3)) 24)))] 32 (0, 0)) (by (with_reducible repeat (first | refine blk_drewN ?_ _ | refine blk_drew ?_ | refine blk_alloc ?_ _)); refine blk_put (cs := #[.int .i64 (wrap64 (a2)), .int .i64 0]) ?_ 1 _ rfl; (with_reducible repeat (first | refine blk_drewN ?_ _ | refine blk_drew ?_ | refine blk_alloc ?_ _)); refine blk_put (cs := #[.int .i64 0, .int .i64 0]) ?_ 0 _ rfl; (with_reducible repeat (first | refine blk_drewN ?_ _ | refine blk_drew ?_ | refine blk_alloc ?_ _)); exact BK278.out)) (below_size (by repeat (first | (with_reducible first | exact HB.out | apply below_alloc | apply pw_below_drewN | apply below_drew1 | refine below_set ?_ GE278.out) | exact HB.out)))); have n3_ := Aside0.mk (blk_below (g := gb278) (o := .cells #[.int .i64 (wrap64 (a2)), .int .i64 (wrap64 (1 + (Int.tmod (wrap64 (a3)) 24)))] 32 (0, 0)) (by (with_reducible repeat (first | refine blk_drewN ?_ _ | refine blk_drew ?_ | refine blk_alloc ?_ _)); refine blk_put (cs := #[.int .i64 (wrap64 (a2)), .int .i64 0]) ?_ 1 _ rfl; (with_reducible repeat (first | refine blk_drewN ?_ _ | refine blk_drew ?_ | refine blk_alloc ?_ _)); refine blk_put (cs := #[.int .i64 0, .int .i64 0]) ?_ 0 _ rfl; (with_reducible repeat (first | refine blk_drewN ?_ _ | refine blk_drew ?_ | refine blk_alloc ?_ _)); exact BK278.out) hb); have n4_ := Aside0.mk (below_step (by repeat (first | (with_reducible first | exact HB.out | apply below_alloc | apply pw_below_drewN | apply below_drew1 | refine below_set ?_ GE278.out) | exact HB.out)) hb); clear HO272; clear HO277; clear BK278; clear HB; have HO272 := n0_; have HO277 := n1_; have HO281 := n2_; have BK278 := n3_; have HB := n4_; clear n0_ n1_ n2_ n3_ n4_; (try clear hb); (try clear hb2); (try clear hk); (try clear hi); (try clear ho0)))
 go_loopg [17] k (fun kq v17 w' => ∃ (x17_1 : Int), v17 = .int .i64 x17_1 ∧ Aside0 (rickyardlaw5_RunsPages.l0 kq t270 (wrap64 (1 + (Int.tmod (wrap64 (a1)) 24))) t273 t274 t275 t279 t282 x17_1 (wrap64 (a2)) (wrap64 (1 + (Int.tmod (wrap64 (a3)) 24))) = some r) ∧ Aside0 (kq ≤ k) ∧ Aside0 (Kd.R k32 32 w' w.heap.size (fun k_ => some k_ ≠ (v276 : Value).ownBlock ∧ some k_ ≠ (v280 : Value).ownBlock ∧ k_ ≠ gb278) (.slice Ao9 t270.length co9) t270) ∧ Aside0 (Kd.R k32 32 w' w.heap.size (fun k_ => some k_ ≠ ((.slice Ao9 t270.length co9) : Value).ownBlock ∧ some k_ ≠ (v280 : Value).ownBlock ∧ k_ ≠ gb278) v276 t273) ∧ Aside0 (Kd.R k32 32 w' w.heap.size (fun k_ => some k_ ≠ ((.slice Ao9 t270.length co9) : Value).ownBlock ∧ some k_ ≠ (v276 : Value).ownBlock ∧ k_ ≠ gb278) v280 t279) ∧ Aside0 (w'.heap[gb278]? = some (.cells #[.int .i64 (wrap64 (a2)), .int .i64 (wrap64 (1 + (Int.tmod (wrap64 (a3)) 24)))] 32 (0, 0))) ∧ Aside0 (Below w.heap.size w w'))
 case atStart => exact ⟨(0), (by first | rfl | (simp; done) | (simp [*]; done)), H', ⟨Nat.le_refl _⟩, ⟨by (with_reducible repeat (first | apply Kd.R_alloc | apply Kd.R_drewN | apply Kd.R_drew)); exact Kd.R_mono HO272.out (fun _ hk => ⟨hk.1.1.2, ⟨hk.2, hk.1.2⟩⟩)⟩, ⟨by (with_reducible repeat (first | apply Kd.R_alloc | apply Kd.R_drewN | apply Kd.R_drew)); exact Kd.R_mono HO277.out (fun _ hk => ⟨hk.1.1.2, ⟨hk.2, hk.1.2⟩⟩)⟩, ⟨by (with_reducible repeat (first | apply Kd.R_alloc | apply Kd.R_drewN | apply Kd.R_drew)); exact Kd.R_mono HO281.out (fun _ hk => ⟨hk.1.1.2, ⟨hk.1.2, hk.2⟩⟩)⟩, ⟨by (with_reducible repeat (first | refine blk_drewN ?_ _ | refine blk_drew ?_ | refine blk_alloc ?_ _)); exact BK278.out⟩, ⟨by repeat (first | (with_reducible first | exact HB.out | apply below_alloc | apply pw_below_drewN | apply below_drew1 | refine below_set ?_ GE278.out) | exact HB.out)⟩⟩
 case round =>
  clear H'
  try clear c1
  try clear p2
  try clear c5
  try clear p6
  try clear c13
  try clear hcz12_0
  try clear hcz12_1
  try clear hfz12_0
  try clear hfz12_1
  obtain ⟨x17_1, rfl, HA, HK1, HO_9, HO_11, HO_15, BK278, HB⟩ := hrel
  cases gk with
  | zero => exact absurd HA.out (by simp [rickyardlaw5_RunsPages.l0])
  | succ k1 =>
   have H := HA.out
   clear HA
   simp only [rickyardlaw5_RunsPages.l0] at H
   by_cases c14 : x17_1 < 256
   ·rw [if_pos c14] at H
    have c14b0 : decide (x17_1 < 256) = true := decide_eq_true c14
    clear c14
    replace H := Option.bind_eq_some_iff.mp H
    obtain ⟨t289, A150, H⟩ := H
    replace H : (if x17_1 ≥ t274 then (rickyardlaw5_RunsPages.j1 k1 t270 (wrap64 (1 + (Int.tmod (wrap64 (a1)) 24))) t273 t274 t275 t279 t282 x17_1 t289 (decide (x17_1 < (wrap64 (t274 + (wrap64 (1 + (Int.tmod (wrap64 (a1)) 24))))))) (wrap64 (a2)) (wrap64 (1 + (Int.tmod (wrap64 (a3)) 24)))) else (rickyardlaw5_RunsPages.j1 k1 t270 (wrap64 (1 + (Int.tmod (wrap64 (a1)) 24))) t273 t274 t275 t279 t282 x17_1 t289 false (wrap64 (a2)) (wrap64 (1 + (Int.tmod (wrap64 (a3)) 24))))) = some r := H
    have A15 := Aside0.mk A150
    clear A150
    have HC16 := Aside0.mk H
    clear H
    go_upto_region 10 with (first | ((with_reducible refine gate_callee (f := 19) rfl ?_); refine goesL_ (some 53) rfl rfl Try.func19 (by kernel_rfl) rfl #[.slice Ao9 t270.length co9, .int .i64 x17_1] rfl (by (try simp only [List.map_toArray, List.map_cons, List.map_nil]); first | done | rfl | (simp only [List.length_drop, List.length_take]; rfl)) ?_; (with_reducible refine (runs_Has.calls _ _ t270 x17_1 t289 _ ?side1 ?side2 A15.out).mono ?_); (case side1 => repeat (first | exact (Kd.R_reads' HO_9.out).2.2 | (with_reducible refine Kd.C_alloc ?_ _) | (with_reducible refine Kd.C_drewN ?_ _) | (with_reducible refine Kd.C_drew ?_))); (case side2 => exact (Kd.R_reads' HO_9.out).2.1); rintro e w17 ⟨rfl, hb⟩; refine ⟨_, rfl, ?_⟩; have n0_ := Aside0.mk (Kd.R_below (by (with_reducible repeat (first | apply Kd.R_alloc | apply Kd.R_drewN | apply Kd.R_drew)); exact HO_9.out) hb); have n1_ := Aside0.mk (Kd.R_below (by (with_reducible repeat (first | apply Kd.R_alloc | apply Kd.R_drewN | apply Kd.R_drew)); exact HO_11.out) hb); have n2_ := Aside0.mk (Kd.R_below (by (with_reducible repeat (first | apply Kd.R_alloc | apply Kd.R_drewN | apply Kd.R_drew)); exact HO_15.out) hb); have n3_ := Aside0.mk (blk_below (g := gb278) (o := .cells #[.int .i64 (wrap64 (a2)), .int .i64 (wrap64 (1 + (Int.tmod (wrap64 (a3)) 24)))] 32 (0, 0)) (by (with_reducible repeat (first | refine blk_drewN ?_ _ | refine blk_drew ?_ | refine blk_alloc ?_ _)); exact BK278.out) hb); have n4_ := Aside0.mk (below_step (by repeat (first | (with_reducible first | exact HB.out | apply below_alloc | apply pw_below_drewN | apply below_drew1 | refine below_set ?_ GE278.out) | exact HB.out)) hb); clear HO_9; clear HO_11; clear HO_15; clear BK278; clear HB; have HO_9 := n0_; have HO_11 := n1_; have HO_15 := n2_; have BK278 := n3_; have HB := n4_; clear n0_ n1_ n2_ n3_ n4_; (try clear hb); (try clear hb2); (try clear hk); (try clear hi)))
    (try simp only [Act.put, List.setIfInBounds_toArray, List.set_cons_zero, List.set_cons_succ])
    go_cut [19] (fun v19 wc => ∃ (kq : Nat) (x19_15 : Bool), v19 = .bool x19_15 ∧ Aside0 (rickyardlaw5_RunsPages.j1 kq t270 (wrap64 (1 + (Int.tmod (wrap64 (a1)) 24))) t273 t274 t275 t279 t282 x17_1 t289 x19_15 (wrap64 (a2)) (wrap64 (1 + (Int.tmod (wrap64 (a3)) 24))) = some r) ∧ Aside0 (kq ≤ k1) ∧ Aside0 (Kd.R k32 32 wc w.heap.size (fun k_ => some k_ ≠ (v276 : Value).ownBlock ∧ some k_ ≠ (v280 : Value).ownBlock ∧ k_ ≠ gb278) (.slice Ao9 t270.length co9) t270) ∧ Aside0 (Kd.R k32 32 wc w.heap.size (fun k_ => some k_ ≠ ((.slice Ao9 t270.length co9) : Value).ownBlock ∧ some k_ ≠ (v280 : Value).ownBlock ∧ k_ ≠ gb278) v276 t273) ∧ Aside0 (Kd.R k32 32 wc w.heap.size (fun k_ => some k_ ≠ ((.slice Ao9 t270.length co9) : Value).ownBlock ∧ some k_ ≠ (v276 : Value).ownBlock ∧ k_ ≠ gb278) v280 t279) ∧ Aside0 (wc.heap[gb278]? = some (.cells #[.int .i64 (wrap64 (a2)), .int .i64 (wrap64 (1 + (Int.tmod (wrap64 (a3)) 24)))] 32 (0, 0))) ∧ Aside0 (Below w.heap.size w wc))
    case first =>
     have H := HC16.out
     clear HC16
     by_cases c18 : x17_1 ≥ t274
     ·rw [if_pos c18] at H
      have c18b0 : decide (t274 ≤ x17_1) = true := decide_eq_true c18
      clear c18
      (first | rw [c18b0] | (simp only [i64_w, i32_w]; rw [c18b0]) | skip)
      have H' := Aside0.mk H
      clear H
      go_wp2
      go_meet
      case rel => exact ⟨_, (decide (x17_1 < (wrap64 (t274 + (wrap64 (1 + (Int.tmod (wrap64 (a1)) 24))))))), (by first | rfl | (simp; done) | (simp [*]; done)), H', ⟨by have := HK1.out; first | omega | exact Nat.le_refl _⟩, ⟨by (with_reducible repeat (first | apply Kd.R_alloc | apply Kd.R_drewN | apply Kd.R_drew)); exact HO_9.out⟩, ⟨by (with_reducible repeat (first | apply Kd.R_alloc | apply Kd.R_drewN | apply Kd.R_drew)); exact HO_11.out⟩, ⟨by (with_reducible repeat (first | apply Kd.R_alloc | apply Kd.R_drewN | apply Kd.R_drew)); exact HO_15.out⟩, ⟨by (with_reducible repeat (first | refine blk_drewN ?_ _ | refine blk_drew ?_ | refine blk_alloc ?_ _)); exact BK278.out⟩, ⟨by repeat (first | (with_reducible first | exact HB.out | apply below_alloc | apply pw_below_drewN | apply below_drew1 | refine below_set ?_ GE278.out) | exact HB.out)⟩⟩
     ·rw [if_neg c18] at H
      have c18b0 : decide (t274 ≤ x17_1) = false := decide_eq_false c18
      clear c18
      (first | rw [c18b0] | (simp only [i64_w, i32_w]; rw [c18b0]) | skip)
      have H' := Aside0.mk H
      clear H
      go_wp2
      go_meet
      case rel => exact ⟨_, (false), (by first | rfl | (simp; done) | (simp [*]; done)), H', ⟨by have := HK1.out; first | omega | exact Nat.le_refl _⟩, ⟨by (with_reducible repeat (first | apply Kd.R_alloc | apply Kd.R_drewN | apply Kd.R_drew)); exact HO_9.out⟩, ⟨by (with_reducible repeat (first | apply Kd.R_alloc | apply Kd.R_drewN | apply Kd.R_drew)); exact HO_11.out⟩, ⟨by (with_reducible repeat (first | apply Kd.R_alloc | apply Kd.R_drewN | apply Kd.R_drew)); exact HO_15.out⟩, ⟨by (with_reducible repeat (first | refine blk_drewN ?_ _ | refine blk_drew ?_ | refine blk_alloc ?_ _)); exact BK278.out⟩, ⟨by repeat (first | (with_reducible first | exact HB.out | apply below_alloc | apply pw_below_drewN | apply below_drew1 | refine below_set ?_ GE278.out) | exact HB.out)⟩⟩
    case rest =>
     clear HC16
     try clear c1
     try clear p2
     try clear c5
     try clear p6
     try clear c13
     try clear c14
     try clear c14b0
     try clear c15
     try clear c18
     try clear c18b0
     try clear hcz12_0
     try clear hcz12_1
     try clear hfz12_0
     try clear hfz12_1
     try clear p2
     try clear p6
     obtain ⟨kq, x19_15, rfl, HA, HJ15, HO_9, HO_11, HO_15, BK278, HB⟩ := hcut
     cases kq with
     | zero => exact absurd HA.out (by simp [rickyardlaw5_RunsPages.j1])
     | succ kj15 =>
      have H := HA.out
      clear HA
      simp only [rickyardlaw5_RunsPages.j1] at H
      have HC19 := Aside0.mk H
      clear H
      go_upto_region 11 with (fail)
      go_cut [83] (fun v83 wc => ∃ (kq : Nat) (x83_18 : Bool), v83 = .bool x83_18 ∧ Aside0 (rickyardlaw5_RunsPages.j2 kq t270 (wrap64 (1 + (Int.tmod (wrap64 (a1)) 24))) t273 t274 t275 t279 t282 x17_1 t289 x83_18 (wrap64 (a2)) (wrap64 (1 + (Int.tmod (wrap64 (a3)) 24))) = some r) ∧ Aside0 (kq ≤ kj15) ∧ Aside0 (Kd.R k32 32 wc w.heap.size (fun k_ => some k_ ≠ (v276 : Value).ownBlock ∧ some k_ ≠ (v280 : Value).ownBlock ∧ k_ ≠ gb278) (.slice Ao9 t270.length co9) t270) ∧ Aside0 (Kd.R k32 32 wc w.heap.size (fun k_ => some k_ ≠ ((.slice Ao9 t270.length co9) : Value).ownBlock ∧ some k_ ≠ (v280 : Value).ownBlock ∧ k_ ≠ gb278) v276 t273) ∧ Aside0 (Kd.R k32 32 wc w.heap.size (fun k_ => some k_ ≠ ((.slice Ao9 t270.length co9) : Value).ownBlock ∧ some k_ ≠ (v276 : Value).ownBlock ∧ k_ ≠ gb278) v280 t279) ∧ Aside0 (wc.heap[gb278]? = some (.cells #[.int .i64 (wrap64 (a2)), .int .i64 (wrap64 (1 + (Int.tmod (wrap64 (a3)) 24)))] 32 (0, 0))) ∧ Aside0 (Below w.heap.size w wc))
      case first =>
       have H := HC19.out
       clear HC19
       by_cases c20 : t275 = 0
       ·rw [if_pos c20] at H
        have c20b0 : (t275 == 0) = true := beq_iff_eq.mpr c20
        have c20b1 : (t275 != 0) = false := bne_eq_false_iff_eq.mpr c20
        clear c20
        (first | rw [c20b0] | (simp only [i64_w, i32_w]; rw [c20b0]) | skip)
        replace H := Option.bind_eq_some_iff.mp H
        obtain ⟨t290, A210, H⟩ := H
        replace H : (if t289 = true then (if (t290 != (!x19_15)) = true then (rickyardlaw5_RunsPages.j2 kj15 t270 (wrap64 (1 + (Int.tmod (wrap64 (a1)) 24))) t273 t274 t275 t279 t282 x17_1 t289 true (wrap64 (a2)) (wrap64 (1 + (Int.tmod (wrap64 (a3)) 24)))) else (if x19_15 = true then (rickyardlaw5_RunsPages.j2 kj15 t270 (wrap64 (1 + (Int.tmod (wrap64 (a1)) 24))) t273 t274 t275 t279 t282 x17_1 t289 (!t289) (wrap64 (a2)) (wrap64 (1 + (Int.tmod (wrap64 (a3)) 24)))) else (rickyardlaw5_RunsPages.j2 kj15 t270 (wrap64 (1 + (Int.tmod (wrap64 (a1)) 24))) t273 t274 t275 t279 t282 x17_1 t289 false (wrap64 (a2)) (wrap64 (1 + (Int.tmod (wrap64 (a3)) 24)))))) else (if (t290 != false) = true then (rickyardlaw5_RunsPages.j2 kj15 t270 (wrap64 (1 + (Int.tmod (wrap64 (a1)) 24))) t273 t274 t275 t279 t282 x17_1 t289 true (wrap64 (a2)) (wrap64 (1 + (Int.tmod (wrap64 (a3)) 24)))) else (if x19_15 = true then (rickyardlaw5_RunsPages.j2 kj15 t270 (wrap64 (1 + (Int.tmod (wrap64 (a1)) 24))) t273 t274 t275 t279 t282 x17_1 t289 (!t289) (wrap64 (a2)) (wrap64 (1 + (Int.tmod (wrap64 (a3)) 24)))) else (rickyardlaw5_RunsPages.j2 kj15 t270 (wrap64 (1 + (Int.tmod (wrap64 (a1)) 24))) t273 t274 t275 t279 t282 x17_1 t289 false (wrap64 (a2)) (wrap64 (1 + (Int.tmod (wrap64 (a3)) 24))))))) = some r := H
        have A21 := Aside0.mk A210
        clear A210
        by_cases c22 : t289 = true
        ·subst c22
         have H1 : (if (t290 != (!x19_15)) = true then (rickyardlaw5_RunsPages.j2 kj15 t270 (wrap64 (1 + (Int.tmod (wrap64 (a1)) 24))) t273 t274 t275 t279 t282 x17_1 true true (wrap64 (a2)) (wrap64 (1 + (Int.tmod (wrap64 (a3)) 24)))) else (if x19_15 = true then (rickyardlaw5_RunsPages.j2 kj15 t270 (wrap64 (1 + (Int.tmod (wrap64 (a1)) 24))) t273 t274 t275 t279 t282 x17_1 true (!true) (wrap64 (a2)) (wrap64 (1 + (Int.tmod (wrap64 (a3)) 24)))) else (rickyardlaw5_RunsPages.j2 kj15 t270 (wrap64 (1 + (Int.tmod (wrap64 (a1)) 24))) t273 t274 t275 t279 t282 x17_1 true false (wrap64 (a2)) (wrap64 (1 + (Int.tmod (wrap64 (a3)) 24)))))) = some r := by rw [if_pos rfl] at H; exact H
         clear H
         have H := H1
         clear H1
         by_cases c23 : (t290 != (!x19_15)) = true
         ·rw [if_pos c23] at H
          have c23b0 : (t290 != (!x19_15)) = true := c23
          (try (have c23b1 : decide (t290 = (!x19_15)) = false := by simpa using c23))
          (try (have c23b2 : (t290 == (!x19_15)) = false := by simpa using c23))
          (try (have c23b3 : ¬ (t290 = (!x19_15)) := by simpa using c23))
          (try (have c23b4 : t290 = !(!x19_15) := (show ∀ p_ q_ : Bool, (p_ != q_) = true → p_ = !q_ from by decide) _ _ c23))
          clear c23
          have H' := Aside0.mk H
          clear H
          obtain ⟨Ao24, co24, eo24⟩ := Kd.R_slice HO_11.out
          subst eo24
          go_wp2_with (first | (go_at_call 19; (with_reducible refine (runs_Has.calls _ _ t273 x17_1 t290 _ ?side1 ?side2 A21.out).mono ?_); (case side1 => repeat (first | exact (Kd.R_reads' HO_11.out).2.2 | (with_reducible refine Kd.C_alloc ?_ _) | (with_reducible refine Kd.C_drewN ?_ _) | (with_reducible refine Kd.C_drew ?_))); (case side2 => exact (Kd.R_reads' HO_11.out).2.1); rintro e w25 ⟨rfl, hb⟩; have n0_ := Aside0.mk (Kd.R_below (by (with_reducible repeat (first | apply Kd.R_alloc | apply Kd.R_drewN | apply Kd.R_drew)); exact HO_9.out) hb); have n1_ := Aside0.mk (Kd.R_below (by (with_reducible repeat (first | apply Kd.R_alloc | apply Kd.R_drewN | apply Kd.R_drew)); exact HO_11.out) hb); have n2_ := Aside0.mk (Kd.R_below (by (with_reducible repeat (first | apply Kd.R_alloc | apply Kd.R_drewN | apply Kd.R_drew)); exact HO_15.out) hb); have n3_ := Aside0.mk (blk_below (g := gb278) (o := .cells #[.int .i64 (wrap64 (a2)), .int .i64 (wrap64 (1 + (Int.tmod (wrap64 (a3)) 24)))] 32 (0, 0)) (by (with_reducible repeat (first | refine blk_drewN ?_ _ | refine blk_drew ?_ | refine blk_alloc ?_ _)); exact BK278.out) hb); have n4_ := Aside0.mk (below_step (by repeat (first | (with_reducible first | exact HB.out | apply below_alloc | apply pw_below_drewN | apply below_drew1 | refine below_set ?_ GE278.out) | exact HB.out)) hb); clear HO_9; clear HO_11; clear HO_15; clear BK278; clear HB; have HO_9 := n0_; have HO_11 := n1_; have HO_15 := n2_; have BK278 := n3_; have HB := n4_; clear n0_ n1_ n2_ n3_ n4_; (try clear hb); (try clear hb2); (try clear hk); (try clear hi)))
          go_meet
          case rel => exact ⟨_, (true), (by first | rfl | (simp; done) | (simp [*]; done)), H', ⟨by have := HK1.out; have := HJ15.out; first | omega | exact Nat.le_refl _⟩, ⟨by (with_reducible repeat (first | apply Kd.R_alloc | apply Kd.R_drewN | apply Kd.R_drew)); exact HO_9.out⟩, ⟨by (with_reducible repeat (first | apply Kd.R_alloc | apply Kd.R_drewN | apply Kd.R_drew)); exact HO_11.out⟩, ⟨by (with_reducible repeat (first | apply Kd.R_alloc | apply Kd.R_drewN | apply Kd.R_drew)); exact HO_15.out⟩, ⟨by (with_reducible repeat (first | refine blk_drewN ?_ _ | refine blk_drew ?_ | refine blk_alloc ?_ _)); exact BK278.out⟩, ⟨by repeat (first | (with_reducible first | exact HB.out | apply below_alloc | apply pw_below_drewN | apply below_drew1 | refine below_set ?_ GE278.out) | exact HB.out)⟩⟩
         ·rw [if_neg c23] at H
          have c23b0 : (t290 != (!x19_15)) = false := by simpa using c23
          (try (have c23b1 : decide (t290 = (!x19_15)) = true := by simpa using c23))
          (try (have c23b2 : (t290 == (!x19_15)) = true := by simpa using c23))
          (try (have c23b3 : t290 = (!x19_15) := (show ∀ p_ q_ : Bool, ¬ ((p_ != q_) = true) → p_ = q_ from by decide) _ _ c23))
          clear c23
          by_cases c26 : x19_15 = true
          ·subst c26
           have H1 : (rickyardlaw5_RunsPages.j2 kj15 t270 (wrap64 (1 + (Int.tmod (wrap64 (a1)) 24))) t273 t274 t275 t279 t282 x17_1 true (!true) (wrap64 (a2)) (wrap64 (1 + (Int.tmod (wrap64 (a3)) 24)))) = some r := by rw [if_pos rfl] at H; exact H
           clear H
           have H := H1
           clear H1
           have H' := Aside0.mk H
           clear H
           obtain ⟨Ao27, co27, eo27⟩ := Kd.R_slice HO_11.out
           subst eo27
           go_wp2_with (first | (go_at_call 19; (with_reducible refine (runs_Has.calls _ _ t273 x17_1 t290 _ ?side1 ?side2 A21.out).mono ?_); (case side1 => repeat (first | exact (Kd.R_reads' HO_11.out).2.2 | (with_reducible refine Kd.C_alloc ?_ _) | (with_reducible refine Kd.C_drewN ?_ _) | (with_reducible refine Kd.C_drew ?_))); (case side2 => exact (Kd.R_reads' HO_11.out).2.1); rintro e w28 ⟨rfl, hb⟩; have n0_ := Aside0.mk (Kd.R_below (by (with_reducible repeat (first | apply Kd.R_alloc | apply Kd.R_drewN | apply Kd.R_drew)); exact HO_9.out) hb); have n1_ := Aside0.mk (Kd.R_below (by (with_reducible repeat (first | apply Kd.R_alloc | apply Kd.R_drewN | apply Kd.R_drew)); exact HO_11.out) hb); have n2_ := Aside0.mk (Kd.R_below (by (with_reducible repeat (first | apply Kd.R_alloc | apply Kd.R_drewN | apply Kd.R_drew)); exact HO_15.out) hb); have n3_ := Aside0.mk (blk_below (g := gb278) (o := .cells #[.int .i64 (wrap64 (a2)), .int .i64 (wrap64 (1 + (Int.tmod (wrap64 (a3)) 24)))] 32 (0, 0)) (by (with_reducible repeat (first | refine blk_drewN ?_ _ | refine blk_drew ?_ | refine blk_alloc ?_ _)); exact BK278.out) hb); have n4_ := Aside0.mk (below_step (by repeat (first | (with_reducible first | exact HB.out | apply below_alloc | apply pw_below_drewN | apply below_drew1 | refine below_set ?_ GE278.out) | exact HB.out)) hb); clear HO_9; clear HO_11; clear HO_15; clear BK278; clear HB; have HO_9 := n0_; have HO_11 := n1_; have HO_15 := n2_; have BK278 := n3_; have HB := n4_; clear n0_ n1_ n2_ n3_ n4_; (try clear hb); (try clear hb2); (try clear hk); (try clear hi)))
           go_meet
           case rel => exact ⟨_, (!true), (by first | rfl | (simp; done) | (simp [*]; done)), H', ⟨by have := HK1.out; have := HJ15.out; first | omega | exact Nat.le_refl _⟩, ⟨by (with_reducible repeat (first | apply Kd.R_alloc | apply Kd.R_drewN | apply Kd.R_drew)); exact HO_9.out⟩, ⟨by (with_reducible repeat (first | apply Kd.R_alloc | apply Kd.R_drewN | apply Kd.R_drew)); exact HO_11.out⟩, ⟨by (with_reducible repeat (first | apply Kd.R_alloc | apply Kd.R_drewN | apply Kd.R_drew)); exact HO_15.out⟩, ⟨by (with_reducible repeat (first | refine blk_drewN ?_ _ | refine blk_drew ?_ | refine blk_alloc ?_ _)); exact BK278.out⟩, ⟨by repeat (first | (with_reducible first | exact HB.out | apply below_alloc | apply pw_below_drewN | apply below_drew1 | refine below_set ?_ GE278.out) | exact HB.out)⟩⟩
          ·replace c26 := Bool.eq_false_iff.mpr c26
           subst c26
           have H1 : (rickyardlaw5_RunsPages.j2 kj15 t270 (wrap64 (1 + (Int.tmod (wrap64 (a1)) 24))) t273 t274 t275 t279 t282 x17_1 true false (wrap64 (a2)) (wrap64 (1 + (Int.tmod (wrap64 (a3)) 24)))) = some r := by rw [if_neg (show ¬ (false = true) by decide)] at H; exact H
           clear H
           have H := H1
           clear H1
           have H' := Aside0.mk H
           clear H
           obtain ⟨Ao29, co29, eo29⟩ := Kd.R_slice HO_11.out
           subst eo29
           go_wp2_with (first | (go_at_call 19; (with_reducible refine (runs_Has.calls _ _ t273 x17_1 t290 _ ?side1 ?side2 A21.out).mono ?_); (case side1 => repeat (first | exact (Kd.R_reads' HO_11.out).2.2 | (with_reducible refine Kd.C_alloc ?_ _) | (with_reducible refine Kd.C_drewN ?_ _) | (with_reducible refine Kd.C_drew ?_))); (case side2 => exact (Kd.R_reads' HO_11.out).2.1); rintro e w30 ⟨rfl, hb⟩; have n0_ := Aside0.mk (Kd.R_below (by (with_reducible repeat (first | apply Kd.R_alloc | apply Kd.R_drewN | apply Kd.R_drew)); exact HO_9.out) hb); have n1_ := Aside0.mk (Kd.R_below (by (with_reducible repeat (first | apply Kd.R_alloc | apply Kd.R_drewN | apply Kd.R_drew)); exact HO_11.out) hb); have n2_ := Aside0.mk (Kd.R_below (by (with_reducible repeat (first | apply Kd.R_alloc | apply Kd.R_drewN | apply Kd.R_drew)); exact HO_15.out) hb); have n3_ := Aside0.mk (blk_below (g := gb278) (o := .cells #[.int .i64 (wrap64 (a2)), .int .i64 (wrap64 (1 + (Int.tmod (wrap64 (a3)) 24)))] 32 (0, 0)) (by (with_reducible repeat (first | refine blk_drewN ?_ _ | refine blk_drew ?_ | refine blk_alloc ?_ _)); exact BK278.out) hb); have n4_ := Aside0.mk (below_step (by repeat (first | (with_reducible first | exact HB.out | apply below_alloc | apply pw_below_drewN | apply below_drew1 | refine below_set ?_ GE278.out) | exact HB.out)) hb); clear HO_9; clear HO_11; clear HO_15; clear BK278; clear HB; have HO_9 := n0_; have HO_11 := n1_; have HO_15 := n2_; have BK278 := n3_; have HB := n4_; clear n0_ n1_ n2_ n3_ n4_; (try clear hb); (try clear hb2); (try clear hk); (try clear hi)))
           go_meet
           case rel => exact ⟨_, (false), (by first | rfl | (simp; done) | (simp [*]; done)), H', ⟨by have := HK1.out; have := HJ15.out; first | omega | exact Nat.le_refl _⟩, ⟨by (with_reducible repeat (first | apply Kd.R_alloc | apply Kd.R_drewN | apply Kd.R_drew)); exact HO_9.out⟩, ⟨by (with_reducible repeat (first | apply Kd.R_alloc | apply Kd.R_drewN | apply Kd.R_drew)); exact HO_11.out⟩, ⟨by (with_reducible repeat (first | apply Kd.R_alloc | apply Kd.R_drewN | apply Kd.R_drew)); exact HO_15.out⟩, ⟨by (with_reducible repeat (first | refine blk_drewN ?_ _ | refine blk_drew ?_ | refine blk_alloc ?_ _)); exact BK278.out⟩, ⟨by repeat (first | (with_reducible first | exact HB.out | apply below_alloc | apply pw_below_drewN | apply below_drew1 | refine below_set ?_ GE278.out) | exact HB.out)⟩⟩
        ·replace c22 := Bool.eq_false_iff.mpr c22
         subst c22
         have H1 : (if (t290 != false) = true then (rickyardlaw5_RunsPages.j2 kj15 t270 (wrap64 (1 + (Int.tmod (wrap64 (a1)) 24))) t273 t274 t275 t279 t282 x17_1 false true (wrap64 (a2)) (wrap64 (1 + (Int.tmod (wrap64 (a3)) 24)))) else (if x19_15 = true then (rickyardlaw5_RunsPages.j2 kj15 t270 (wrap64 (1 + (Int.tmod (wrap64 (a1)) 24))) t273 t274 t275 t279 t282 x17_1 false (!false) (wrap64 (a2)) (wrap64 (1 + (Int.tmod (wrap64 (a3)) 24)))) else (rickyardlaw5_RunsPages.j2 kj15 t270 (wrap64 (1 + (Int.tmod (wrap64 (a1)) 24))) t273 t274 t275 t279 t282 x17_1 false false (wrap64 (a2)) (wrap64 (1 + (Int.tmod (wrap64 (a3)) 24)))))) = some r := by rw [if_neg (show ¬ (false = true) by decide)] at H; exact H
         clear H
         have H := H1
         clear H1
         by_cases c31 : (t290 != false) = true
         ·rw [if_pos c31] at H
          have c31b0 : (t290 != false) = true := c31
          (try (have c31b1 : decide (t290 = false) = false := by simpa using c31))
          (try (have c31b2 : (t290 == false) = false := by simpa using c31))
          (try (have c31b3 : ¬ (t290 = false) := by simpa using c31))
          (try (have c31b4 : t290 = !false := (show ∀ p_ q_ : Bool, (p_ != q_) = true → p_ = !q_ from by decide) _ _ c31))
          clear c31
          have H' := Aside0.mk H
          clear H
          obtain ⟨Ao32, co32, eo32⟩ := Kd.R_slice HO_11.out
          subst eo32
          go_wp2_with (first | (go_at_call 19; (with_reducible refine (runs_Has.calls _ _ t273 x17_1 t290 _ ?side1 ?side2 A21.out).mono ?_); (case side1 => repeat (first | exact (Kd.R_reads' HO_11.out).2.2 | (with_reducible refine Kd.C_alloc ?_ _) | (with_reducible refine Kd.C_drewN ?_ _) | (with_reducible refine Kd.C_drew ?_))); (case side2 => exact (Kd.R_reads' HO_11.out).2.1); rintro e w33 ⟨rfl, hb⟩; have n0_ := Aside0.mk (Kd.R_below (by (with_reducible repeat (first | apply Kd.R_alloc | apply Kd.R_drewN | apply Kd.R_drew)); exact HO_9.out) hb); have n1_ := Aside0.mk (Kd.R_below (by (with_reducible repeat (first | apply Kd.R_alloc | apply Kd.R_drewN | apply Kd.R_drew)); exact HO_11.out) hb); have n2_ := Aside0.mk (Kd.R_below (by (with_reducible repeat (first | apply Kd.R_alloc | apply Kd.R_drewN | apply Kd.R_drew)); exact HO_15.out) hb); have n3_ := Aside0.mk (blk_below (g := gb278) (o := .cells #[.int .i64 (wrap64 (a2)), .int .i64 (wrap64 (1 + (Int.tmod (wrap64 (a3)) 24)))] 32 (0, 0)) (by (with_reducible repeat (first | refine blk_drewN ?_ _ | refine blk_drew ?_ | refine blk_alloc ?_ _)); exact BK278.out) hb); have n4_ := Aside0.mk (below_step (by repeat (first | (with_reducible first | exact HB.out | apply below_alloc | apply pw_below_drewN | apply below_drew1 | refine below_set ?_ GE278.out) | exact HB.out)) hb); clear HO_9; clear HO_11; clear HO_15; clear BK278; clear HB; have HO_9 := n0_; have HO_11 := n1_; have HO_15 := n2_; have BK278 := n3_; have HB := n4_; clear n0_ n1_ n2_ n3_ n4_; (try clear hb); (try clear hb2); (try clear hk); (try clear hi)))
          go_meet
          case rel => exact ⟨_, (true), (by first | rfl | (simp; done) | (simp [*]; done)), H', ⟨by have := HK1.out; have := HJ15.out; first | omega | exact Nat.le_refl _⟩, ⟨by (with_reducible repeat (first | apply Kd.R_alloc | apply Kd.R_drewN | apply Kd.R_drew)); exact HO_9.out⟩, ⟨by (with_reducible repeat (first | apply Kd.R_alloc | apply Kd.R_drewN | apply Kd.R_drew)); exact HO_11.out⟩, ⟨by (with_reducible repeat (first | apply Kd.R_alloc | apply Kd.R_drewN | apply Kd.R_drew)); exact HO_15.out⟩, ⟨by (with_reducible repeat (first | refine blk_drewN ?_ _ | refine blk_drew ?_ | refine blk_alloc ?_ _)); exact BK278.out⟩, ⟨by repeat (first | (with_reducible first | exact HB.out | apply below_alloc | apply pw_below_drewN | apply below_drew1 | refine below_set ?_ GE278.out) | exact HB.out)⟩⟩
         ·rw [if_neg c31] at H
          have c31b0 : (t290 != false) = false := by simpa using c31
          (try (have c31b1 : decide (t290 = false) = true := by simpa using c31))
          (try (have c31b2 : (t290 == false) = true := by simpa using c31))
          (try (have c31b3 : t290 = false := (show ∀ p_ q_ : Bool, ¬ ((p_ != q_) = true) → p_ = q_ from by decide) _ _ c31))
          clear c31
          by_cases c34 : x19_15 = true
          ·subst c34
           have H1 : (rickyardlaw5_RunsPages.j2 kj15 t270 (wrap64 (1 + (Int.tmod (wrap64 (a1)) 24))) t273 t274 t275 t279 t282 x17_1 false (!false) (wrap64 (a2)) (wrap64 (1 + (Int.tmod (wrap64 (a3)) 24)))) = some r := by rw [if_pos rfl] at H; exact H
           clear H
           have H := H1
           clear H1
           have H' := Aside0.mk H
           clear H
           obtain ⟨Ao35, co35, eo35⟩ := Kd.R_slice HO_11.out
           subst eo35
           go_wp2_with (first | (go_at_call 19; (with_reducible refine (runs_Has.calls _ _ t273 x17_1 t290 _ ?side1 ?side2 A21.out).mono ?_); (case side1 => repeat (first | exact (Kd.R_reads' HO_11.out).2.2 | (with_reducible refine Kd.C_alloc ?_ _) | (with_reducible refine Kd.C_drewN ?_ _) | (with_reducible refine Kd.C_drew ?_))); (case side2 => exact (Kd.R_reads' HO_11.out).2.1); rintro e w36 ⟨rfl, hb⟩; have n0_ := Aside0.mk (Kd.R_below (by (with_reducible repeat (first | apply Kd.R_alloc | apply Kd.R_drewN | apply Kd.R_drew)); exact HO_9.out) hb); have n1_ := Aside0.mk (Kd.R_below (by (with_reducible repeat (first | apply Kd.R_alloc | apply Kd.R_drewN | apply Kd.R_drew)); exact HO_11.out) hb); have n2_ := Aside0.mk (Kd.R_below (by (with_reducible repeat (first | apply Kd.R_alloc | apply Kd.R_drewN | apply Kd.R_drew)); exact HO_15.out) hb); have n3_ := Aside0.mk (blk_below (g := gb278) (o := .cells #[.int .i64 (wrap64 (a2)), .int .i64 (wrap64 (1 + (Int.tmod (wrap64 (a3)) 24)))] 32 (0, 0)) (by (with_reducible repeat (first | refine blk_drewN ?_ _ | refine blk_drew ?_ | refine blk_alloc ?_ _)); exact BK278.out) hb); have n4_ := Aside0.mk (below_step (by repeat (first | (with_reducible first | exact HB.out | apply below_alloc | apply pw_below_drewN | apply below_drew1 | refine below_set ?_ GE278.out) | exact HB.out)) hb); clear HO_9; clear HO_11; clear HO_15; clear BK278; clear HB; have HO_9 := n0_; have HO_11 := n1_; have HO_15 := n2_; have BK278 := n3_; have HB := n4_; clear n0_ n1_ n2_ n3_ n4_; (try clear hb); (try clear hb2); (try clear hk); (try clear hi)))
           go_meet
           case rel => exact ⟨_, (!false), (by first | rfl | (simp; done) | (simp [*]; done)), H', ⟨by have := HK1.out; have := HJ15.out; first | omega | exact Nat.le_refl _⟩, ⟨by (with_reducible repeat (first | apply Kd.R_alloc | apply Kd.R_drewN | apply Kd.R_drew)); exact HO_9.out⟩, ⟨by (with_reducible repeat (first | apply Kd.R_alloc | apply Kd.R_drewN | apply Kd.R_drew)); exact HO_11.out⟩, ⟨by (with_reducible repeat (first | apply Kd.R_alloc | apply Kd.R_drewN | apply Kd.R_drew)); exact HO_15.out⟩, ⟨by (with_reducible repeat (first | refine blk_drewN ?_ _ | refine blk_drew ?_ | refine blk_alloc ?_ _)); exact BK278.out⟩, ⟨by repeat (first | (with_reducible first | exact HB.out | apply below_alloc | apply pw_below_drewN | apply below_drew1 | refine below_set ?_ GE278.out) | exact HB.out)⟩⟩
          ·replace c34 := Bool.eq_false_iff.mpr c34
           subst c34
           have H1 : (rickyardlaw5_RunsPages.j2 kj15 t270 (wrap64 (1 + (Int.tmod (wrap64 (a1)) 24))) t273 t274 t275 t279 t282 x17_1 false false (wrap64 (a2)) (wrap64 (1 + (Int.tmod (wrap64 (a3)) 24)))) = some r := by rw [if_neg (show ¬ (false = true) by decide)] at H; exact H
           clear H
           have H := H1
           clear H1
           have H' := Aside0.mk H
           clear H
           obtain ⟨Ao37, co37, eo37⟩ := Kd.R_slice HO_11.out
           subst eo37
           go_wp2_with (first | (go_at_call 19; (with_reducible refine (runs_Has.calls _ _ t273 x17_1 t290 _ ?side1 ?side2 A21.out).mono ?_); (case side1 => repeat (first | exact (Kd.R_reads' HO_11.out).2.2 | (with_reducible refine Kd.C_alloc ?_ _) | (with_reducible refine Kd.C_drewN ?_ _) | (with_reducible refine Kd.C_drew ?_))); (case side2 => exact (Kd.R_reads' HO_11.out).2.1); rintro e w38 ⟨rfl, hb⟩; have n0_ := Aside0.mk (Kd.R_below (by (with_reducible repeat (first | apply Kd.R_alloc | apply Kd.R_drewN | apply Kd.R_drew)); exact HO_9.out) hb); have n1_ := Aside0.mk (Kd.R_below (by (with_reducible repeat (first | apply Kd.R_alloc | apply Kd.R_drewN | apply Kd.R_drew)); exact HO_11.out) hb); have n2_ := Aside0.mk (Kd.R_below (by (with_reducible repeat (first | apply Kd.R_alloc | apply Kd.R_drewN | apply Kd.R_drew)); exact HO_15.out) hb); have n3_ := Aside0.mk (blk_below (g := gb278) (o := .cells #[.int .i64 (wrap64 (a2)), .int .i64 (wrap64 (1 + (Int.tmod (wrap64 (a3)) 24)))] 32 (0, 0)) (by (with_reducible repeat (first | refine blk_drewN ?_ _ | refine blk_drew ?_ | refine blk_alloc ?_ _)); exact BK278.out) hb); have n4_ := Aside0.mk (below_step (by repeat (first | (with_reducible first | exact HB.out | apply below_alloc | apply pw_below_drewN | apply below_drew1 | refine below_set ?_ GE278.out) | exact HB.out)) hb); clear HO_9; clear HO_11; clear HO_15; clear BK278; clear HB; have HO_9 := n0_; have HO_11 := n1_; have HO_15 := n2_; have BK278 := n3_; have HB := n4_; clear n0_ n1_ n2_ n3_ n4_; (try clear hb); (try clear hb2); (try clear hk); (try clear hi)))
           go_meet
           case rel => exact ⟨_, (false), (by first | rfl | (simp; done) | (simp [*]; done)), H', ⟨by have := HK1.out; have := HJ15.out; first | omega | exact Nat.le_refl _⟩, ⟨by (with_reducible repeat (first | apply Kd.R_alloc | apply Kd.R_drewN | apply Kd.R_drew)); exact HO_9.out⟩, ⟨by (with_reducible repeat (first | apply Kd.R_alloc | apply Kd.R_drewN | apply Kd.R_drew)); exact HO_11.out⟩, ⟨by (with_reducible repeat (first | apply Kd.R_alloc | apply Kd.R_drewN | apply Kd.R_drew)); exact HO_15.out⟩, ⟨by (with_reducible repeat (first | refine blk_drewN ?_ _ | refine blk_drew ?_ | refine blk_alloc ?_ _)); exact BK278.out⟩, ⟨by repeat (first | (with_reducible first | exact HB.out | apply below_alloc | apply pw_below_drewN | apply below_drew1 | refine below_set ?_ GE278.out) | exact HB.out)⟩⟩
       ·rw [if_neg c20] at H
        have c20b0 : (t275 == 0) = false := beq_eq_false_iff_ne.mpr c20
        have c20b1 : (t275 != 0) = true := bne_iff_ne.mpr c20
        (first | rw [c20b0] | (simp only [i64_w, i32_w]; rw [c20b0]) | skip)
        have H' := Aside0.mk H
        clear H
        go_wp2
        go_meet
        case rel => exact ⟨_, (false), (by first | rfl | (simp; done) | (simp [*]; done)), H', ⟨by have := HK1.out; have := HJ15.out; first | omega | exact Nat.le_refl _⟩, ⟨by (with_reducible repeat (first | apply Kd.R_alloc | apply Kd.R_drewN | apply Kd.R_drew)); exact HO_9.out⟩, ⟨by (with_reducible repeat (first | apply Kd.R_alloc | apply Kd.R_drewN | apply Kd.R_drew)); exact HO_11.out⟩, ⟨by (with_reducible repeat (first | apply Kd.R_alloc | apply Kd.R_drewN | apply Kd.R_drew)); exact HO_15.out⟩, ⟨by (with_reducible repeat (first | refine blk_drewN ?_ _ | refine blk_drew ?_ | refine blk_alloc ?_ _)); exact BK278.out⟩, ⟨by repeat (first | (with_reducible first | exact HB.out | apply below_alloc | apply pw_below_drewN | apply below_drew1 | refine below_set ?_ GE278.out) | exact HB.out)⟩⟩
      case rest =>
       clear HC19
       try clear c1
       try clear c2
       try clear p2
       try clear c3
       try clear c5
       try clear p6
       try clear c13
       try clear c14
       try clear c14b0
       try clear c15
       try clear c18
       try clear c18b0
       try clear c19
       try clear c20
       try clear c20b0
       try clear c20b1
       try clear c22
       try clear c23
       try clear c23b0
       try clear c23b1
       try clear c23b2
       try clear c26
       try clear c31
       try clear c31b0
       try clear c31b1
       try clear c31b2
       try clear c34
       try clear hcz12_0
       try clear hcz12_1
       try clear hfz12_0
       try clear hfz12_1
       try clear p2
       try clear p6
       obtain ⟨kq, x83_18, rfl, HA, HJ18, HO_9, HO_11, HO_15, BK278, HB⟩ := hcut
       cases kq with
       | zero => exact absurd HA.out (by simp [rickyardlaw5_RunsPages.j2])
       | succ kj18 =>
        have H := HA.out
        clear HA
        simp only [rickyardlaw5_RunsPages.j2] at H
        by_cases c39 : x83_18 = true
        ·subst c39
         have H1 : (some false) = some r := by rw [if_pos rfl] at H; exact H
         clear H
         have H := H1
         clear H1
         obtain rfl := Option.some.inj H
         go_wp2
         go_ret
         exact ⟨by first | rfl | (simp [errW_none, errW_some] <;> rfl) | (simp [*, errW_none, errW_some] <;> rfl), by repeat (first | (with_reducible first | exact HB.out | apply below_alloc | apply pw_below_drewN | apply below_drew1 | refine below_set ?_ GE278.out) | exact HB.out)⟩
        ·replace c39 := Bool.eq_false_iff.mpr c39
         subst c39
         have H1 : (if x17_1 ≥ (wrap64 (a2)) then (if t282 = 0 then ((runs_Has.f t279 x17_1).bind fun t291 => (if t289 = true then (if (t291 != true) = true then (some false) else (if x17_1 < (wrap64 ((wrap64 (a2)) + (wrap64 (1 + (Int.tmod (wrap64 (a3)) 24))))) then (some false) else (rickyardlaw5_RunsPages.l0 kj18 t270 (wrap64 (1 + (Int.tmod (wrap64 (a1)) 24))) t273 t274 t275 t279 t282 (wrap64 (x17_1 + 1)) (wrap64 (a2)) (wrap64 (1 + (Int.tmod (wrap64 (a3)) 24)))))) else (if (t291 != (decide (x17_1 < (wrap64 ((wrap64 (a2)) + (wrap64 (1 + (Int.tmod (wrap64 (a3)) 24)))))))) = true then (some false) else (if x17_1 < (wrap64 ((wrap64 (a2)) + (wrap64 (1 + (Int.tmod (wrap64 (a3)) 24))))) then (rickyardlaw5_RunsPages.l0 kj18 t270 (wrap64 (1 + (Int.tmod (wrap64 (a1)) 24))) t273 t274 t275 t279 t282 (wrap64 (x17_1 + 1)) (wrap64 (a2)) (wrap64 (1 + (Int.tmod (wrap64 (a3)) 24)))) else (rickyardlaw5_RunsPages.l0 kj18 t270 (wrap64 (1 + (Int.tmod (wrap64 (a1)) 24))) t273 t274 t275 t279 t282 (wrap64 (x17_1 + 1)) (wrap64 (a2)) (wrap64 (1 + (Int.tmod (wrap64 (a3)) 24)))))))) else (rickyardlaw5_RunsPages.l0 kj18 t270 (wrap64 (1 + (Int.tmod (wrap64 (a1)) 24))) t273 t274 t275 t279 t282 (wrap64 (x17_1 + 1)) (wrap64 (a2)) (wrap64 (1 + (Int.tmod (wrap64 (a3)) 24))))) else (if t282 = 0 then ((runs_Has.f t279 x17_1).bind fun t292 => (if t289 = true then (if (t292 != true) = true then (some false) else (rickyardlaw5_RunsPages.l0 kj18 t270 (wrap64 (1 + (Int.tmod (wrap64 (a1)) 24))) t273 t274 t275 t279 t282 (wrap64 (x17_1 + 1)) (wrap64 (a2)) (wrap64 (1 + (Int.tmod (wrap64 (a3)) 24))))) else (if (t292 != false) = true then (some false) else (rickyardlaw5_RunsPages.l0 kj18 t270 (wrap64 (1 + (Int.tmod (wrap64 (a1)) 24))) t273 t274 t275 t279 t282 (wrap64 (x17_1 + 1)) (wrap64 (a2)) (wrap64 (1 + (Int.tmod (wrap64 (a3)) 24))))))) else (rickyardlaw5_RunsPages.l0 kj18 t270 (wrap64 (1 + (Int.tmod (wrap64 (a1)) 24))) t273 t274 t275 t279 t282 (wrap64 (x17_1 + 1)) (wrap64 (a2)) (wrap64 (1 + (Int.tmod (wrap64 (a3)) 24)))))) = some r := by rw [if_neg (show ¬ (false = true) by decide)] at H; exact H
         clear H
         have H := H1
         clear H1
         by_cases c40 : x17_1 ≥ (wrap64 (a2))
         ·rw [if_pos c40] at H
          have c40b0 : decide ((wrap64 (a2)) ≤ x17_1) = true := decide_eq_true c40
          clear c40
          by_cases c41 : t282 = 0
          ·rw [if_pos c41] at H
           have c41b0 : (t282 == 0) = true := beq_iff_eq.mpr c41
           have c41b1 : (t282 != 0) = false := bne_eq_false_iff_eq.mpr c41
           clear c41
           replace H := Option.bind_eq_some_iff.mp H
           obtain ⟨t291, A420, H⟩ := H
           replace H : (if t289 = true then (if (t291 != true) = true then (some false) else (if x17_1 < (wrap64 ((wrap64 (a2)) + (wrap64 (1 + (Int.tmod (wrap64 (a3)) 24))))) then (some false) else (rickyardlaw5_RunsPages.l0 kj18 t270 (wrap64 (1 + (Int.tmod (wrap64 (a1)) 24))) t273 t274 t275 t279 t282 (wrap64 (x17_1 + 1)) (wrap64 (a2)) (wrap64 (1 + (Int.tmod (wrap64 (a3)) 24)))))) else (if (t291 != (decide (x17_1 < (wrap64 ((wrap64 (a2)) + (wrap64 (1 + (Int.tmod (wrap64 (a3)) 24)))))))) = true then (some false) else (if x17_1 < (wrap64 ((wrap64 (a2)) + (wrap64 (1 + (Int.tmod (wrap64 (a3)) 24))))) then (rickyardlaw5_RunsPages.l0 kj18 t270 (wrap64 (1 + (Int.tmod (wrap64 (a1)) 24))) t273 t274 t275 t279 t282 (wrap64 (x17_1 + 1)) (wrap64 (a2)) (wrap64 (1 + (Int.tmod (wrap64 (a3)) 24)))) else (rickyardlaw5_RunsPages.l0 kj18 t270 (wrap64 (1 + (Int.tmod (wrap64 (a1)) 24))) t273 t274 t275 t279 t282 (wrap64 (x17_1 + 1)) (wrap64 (a2)) (wrap64 (1 + (Int.tmod (wrap64 (a3)) 24))))))) = some r := H
           have A42 := Aside0.mk A420
           clear A420
           by_cases c43 : t289 = true
           ·subst c43
            have H1 : (if (t291 != true) = true then (some false) else (if x17_1 < (wrap64 ((wrap64 (a2)) + (wrap64 (1 + (Int.tmod (wrap64 (a3)) 24))))) then (some false) else (rickyardlaw5_RunsPages.l0 kj18 t270 (wrap64 (1 + (Int.tmod (wrap64 (a1)) 24))) t273 t274 t275 t279 t282 (wrap64 (x17_1 + 1)) (wrap64 (a2)) (wrap64 (1 + (Int.tmod (wrap64 (a3)) 24)))))) = some r := by rw [if_pos rfl] at H; exact H
            clear H
            have H := H1
            clear H1
            by_cases c44 : (t291 != true) = true
            ·rw [if_pos c44] at H
             have c44b0 : (t291 != true) = true := c44
             (try (have c44b1 : decide (t291 = true) = false := by simpa using c44))
             (try (have c44b2 : (t291 == true) = false := by simpa using c44))
             (try (have c44b3 : ¬ (t291 = true) := by simpa using c44))
             (try (have c44b4 : t291 = !true := (show ∀ p_ q_ : Bool, (p_ != q_) = true → p_ = !q_ from by decide) _ _ c44))
             clear c44
             obtain rfl := Option.some.inj H
             have hcz45_0 : wc.cell? ⟨gb278, 0, none⟩ = some (.int .i64 (wrap64 (a2))) := (blk_cell BK278.out 0).trans rfl
             have hcz45_1 : wc.cell? ⟨gb278, 1, none⟩ = some (.int .i64 (wrap64 (1 + (Int.tmod (wrap64 (a3)) 24)))) := (blk_cell BK278.out 1).trans rfl
             have hfz45_0 := blk_frozen BK278.out 0
             have hfz45_1 := blk_frozen BK278.out 1
             obtain ⟨Ao46, co46, eo46⟩ := Kd.R_slice HO_15.out
             subst eo46
             go_wp2_with (first | (go_at_call 19; (with_reducible refine (runs_Has.calls _ _ t279 x17_1 t291 _ ?side1 ?side2 A42.out).mono ?_); (case side1 => repeat (first | exact (Kd.R_reads' HO_15.out).2.2 | (with_reducible refine Kd.C_alloc ?_ _) | (with_reducible refine Kd.C_drewN ?_ _) | (with_reducible refine Kd.C_drew ?_))); (case side2 => exact (Kd.R_reads' HO_15.out).2.1); rintro e w47 ⟨rfl, hb⟩; have n0_ := Aside0.mk (Kd.R_below (by (with_reducible repeat (first | apply Kd.R_alloc | apply Kd.R_drewN | apply Kd.R_drew)); exact HO_9.out) hb); have n1_ := Aside0.mk (Kd.R_below (by (with_reducible repeat (first | apply Kd.R_alloc | apply Kd.R_drewN | apply Kd.R_drew)); exact HO_11.out) hb); have n2_ := Aside0.mk (Kd.R_below (by (with_reducible repeat (first | apply Kd.R_alloc | apply Kd.R_drewN | apply Kd.R_drew)); exact HO_15.out) hb); have n3_ := Aside0.mk (blk_below (g := gb278) (o := .cells #[.int .i64 (wrap64 (a2)), .int .i64 (wrap64 (1 + (Int.tmod (wrap64 (a3)) 24)))] 32 (0, 0)) (by (with_reducible repeat (first | refine blk_drewN ?_ _ | refine blk_drew ?_ | refine blk_alloc ?_ _)); exact BK278.out) hb); have n4_ := Aside0.mk (below_step (by repeat (first | (with_reducible first | exact HB.out | apply below_alloc | apply pw_below_drewN | apply below_drew1 | refine below_set ?_ GE278.out) | exact HB.out)) hb); clear HO_9; clear HO_11; clear HO_15; clear BK278; clear HB; have HO_9 := n0_; have HO_11 := n1_; have HO_15 := n2_; have BK278 := n3_; have HB := n4_; clear n0_ n1_ n2_ n3_ n4_; (try clear hb); (try clear hb2); (try clear hk); (try clear hi)))
             go_ret
             exact ⟨by first | rfl | (simp [errW_none, errW_some] <;> rfl) | (simp [*, errW_none, errW_some] <;> rfl), by repeat (first | (with_reducible first | exact HB.out | apply below_alloc | apply pw_below_drewN | apply below_drew1 | refine below_set ?_ GE278.out) | exact HB.out)⟩
            ·rw [if_neg c44] at H
             have c44b0 : (t291 != true) = false := by simpa using c44
             (try (have c44b1 : decide (t291 = true) = true := by simpa using c44))
             (try (have c44b2 : (t291 == true) = true := by simpa using c44))
             (try (have c44b3 : t291 = true := (show ∀ p_ q_ : Bool, ¬ ((p_ != q_) = true) → p_ = q_ from by decide) _ _ c44))
             clear c44
             by_cases c48 : x17_1 < (wrap64 ((wrap64 (a2)) + (wrap64 (1 + (Int.tmod (wrap64 (a3)) 24)))))
             ·rw [if_pos c48] at H
              have c48b0 : decide (x17_1 < (wrap64 ((wrap64 (a2)) + (wrap64 (1 + (Int.tmod (wrap64 (a3)) 24)))))) = true := decide_eq_true c48
              clear c48
              obtain rfl := Option.some.inj H
              have hcz49_0 : wc.cell? ⟨gb278, 0, none⟩ = some (.int .i64 (wrap64 (a2))) := (blk_cell BK278.out 0).trans rfl
              have hcz49_1 : wc.cell? ⟨gb278, 1, none⟩ = some (.int .i64 (wrap64 (1 + (Int.tmod (wrap64 (a3)) 24)))) := (blk_cell BK278.out 1).trans rfl
              have hfz49_0 := blk_frozen BK278.out 0
              have hfz49_1 := blk_frozen BK278.out 1
              obtain ⟨Ao50, co50, eo50⟩ := Kd.R_slice HO_15.out
              subst eo50
              go_wp2_with (first | (go_at_call 19; (with_reducible refine (runs_Has.calls _ _ t279 x17_1 t291 _ ?side1 ?side2 A42.out).mono ?_); (case side1 => repeat (first | exact (Kd.R_reads' HO_15.out).2.2 | (with_reducible refine Kd.C_alloc ?_ _) | (with_reducible refine Kd.C_drewN ?_ _) | (with_reducible refine Kd.C_drew ?_))); (case side2 => exact (Kd.R_reads' HO_15.out).2.1); rintro e w51 ⟨rfl, hb⟩; have n0_ := Aside0.mk (Kd.R_below (by (with_reducible repeat (first | apply Kd.R_alloc | apply Kd.R_drewN | apply Kd.R_drew)); exact HO_9.out) hb); have n1_ := Aside0.mk (Kd.R_below (by (with_reducible repeat (first | apply Kd.R_alloc | apply Kd.R_drewN | apply Kd.R_drew)); exact HO_11.out) hb); have n2_ := Aside0.mk (Kd.R_below (by (with_reducible repeat (first | apply Kd.R_alloc | apply Kd.R_drewN | apply Kd.R_drew)); exact HO_15.out) hb); have n3_ := Aside0.mk (blk_below (g := gb278) (o := .cells #[.int .i64 (wrap64 (a2)), .int .i64 (wrap64 (1 + (Int.tmod (wrap64 (a3)) 24)))] 32 (0, 0)) (by (with_reducible repeat (first | refine blk_drewN ?_ _ | refine blk_drew ?_ | refine blk_alloc ?_ _)); exact BK278.out) hb); have n4_ := Aside0.mk (below_step (by repeat (first | (with_reducible first | exact HB.out | apply below_alloc | apply pw_below_drewN | apply below_drew1 | refine below_set ?_ GE278.out) | exact HB.out)) hb); clear HO_9; clear HO_11; clear HO_15; clear BK278; clear HB; have HO_9 := n0_; have HO_11 := n1_; have HO_15 := n2_; have BK278 := n3_; have HB := n4_; clear n0_ n1_ n2_ n3_ n4_; (try clear hb); (try clear hb2); (try clear hk); (try clear hi)))
              go_ret
              exact ⟨by first | rfl | (simp [errW_none, errW_some] <;> rfl) | (simp [*, errW_none, errW_some] <;> rfl), by repeat (first | (with_reducible first | exact HB.out | apply below_alloc | apply pw_below_drewN | apply below_drew1 | refine below_set ?_ GE278.out) | exact HB.out)⟩
             ·rw [if_neg c48] at H
              have c48b0 : decide (x17_1 < (wrap64 ((wrap64 (a2)) + (wrap64 (1 + (Int.tmod (wrap64 (a3)) 24)))))) = false := decide_eq_false c48
              clear c48
              have H' := Aside0.mk H
              clear H
              have hcz52_0 : wc.cell? ⟨gb278, 0, none⟩ = some (.int .i64 (wrap64 (a2))) := (blk_cell BK278.out 0).trans rfl
              have hcz52_1 : wc.cell? ⟨gb278, 1, none⟩ = some (.int .i64 (wrap64 (1 + (Int.tmod (wrap64 (a3)) 24)))) := (blk_cell BK278.out 1).trans rfl
              have hfz52_0 := blk_frozen BK278.out 0
              have hfz52_1 := blk_frozen BK278.out 1
              obtain ⟨Ao53, co53, eo53⟩ := Kd.R_slice HO_15.out
              subst eo53
              go_wp2_with (first | (go_at_call 19; (with_reducible refine (runs_Has.calls _ _ t279 x17_1 t291 _ ?side1 ?side2 A42.out).mono ?_); (case side1 => repeat (first | exact (Kd.R_reads' HO_15.out).2.2 | (with_reducible refine Kd.C_alloc ?_ _) | (with_reducible refine Kd.C_drewN ?_ _) | (with_reducible refine Kd.C_drew ?_))); (case side2 => exact (Kd.R_reads' HO_15.out).2.1); rintro e w54 ⟨rfl, hb⟩; have n0_ := Aside0.mk (Kd.R_below (by (with_reducible repeat (first | apply Kd.R_alloc | apply Kd.R_drewN | apply Kd.R_drew)); exact HO_9.out) hb); have n1_ := Aside0.mk (Kd.R_below (by (with_reducible repeat (first | apply Kd.R_alloc | apply Kd.R_drewN | apply Kd.R_drew)); exact HO_11.out) hb); have n2_ := Aside0.mk (Kd.R_below (by (with_reducible repeat (first | apply Kd.R_alloc | apply Kd.R_drewN | apply Kd.R_drew)); exact HO_15.out) hb); have n3_ := Aside0.mk (blk_below (g := gb278) (o := .cells #[.int .i64 (wrap64 (a2)), .int .i64 (wrap64 (1 + (Int.tmod (wrap64 (a3)) 24)))] 32 (0, 0)) (by (with_reducible repeat (first | refine blk_drewN ?_ _ | refine blk_drew ?_ | refine blk_alloc ?_ _)); exact BK278.out) hb); have n4_ := Aside0.mk (below_step (by repeat (first | (with_reducible first | exact HB.out | apply below_alloc | apply pw_below_drewN | apply below_drew1 | refine below_set ?_ GE278.out) | exact HB.out)) hb); clear HO_9; clear HO_11; clear HO_15; clear BK278; clear HB; have HO_9 := n0_; have HO_11 := n1_; have HO_15 := n2_; have BK278 := n3_; have HB := n4_; clear n0_ n1_ n2_ n3_ n4_; (try clear hb); (try clear hb2); (try clear hk); (try clear hi)))
              go_roundg kj18
              case measure => have := HK1.out; have := HJ15.out; have := HJ18.out; omega
              case rel => exact ⟨(wrap64 (x17_1 + 1)), (by first | rfl | (simp; done) | (simp [*]; done)), H', ⟨by have := HK1.out; have := HJ15.out; have := HJ18.out; omega⟩, ⟨by (with_reducible repeat (first | apply Kd.R_alloc | apply Kd.R_drewN | apply Kd.R_drew)); exact HO_9.out⟩, ⟨by (with_reducible repeat (first | apply Kd.R_alloc | apply Kd.R_drewN | apply Kd.R_drew)); exact HO_11.out⟩, ⟨by (with_reducible repeat (first | apply Kd.R_alloc | apply Kd.R_drewN | apply Kd.R_drew)); exact HO_15.out⟩, ⟨by (with_reducible repeat (first | refine blk_drewN ?_ _ | refine blk_drew ?_ | refine blk_alloc ?_ _)); exact BK278.out⟩, ⟨by repeat (first | (with_reducible first | exact HB.out | apply below_alloc | apply pw_below_drewN | apply below_drew1 | refine below_set ?_ GE278.out) | exact HB.out)⟩⟩
           ·replace c43 := Bool.eq_false_iff.mpr c43
            subst c43
            have H1 : (if (t291 != (decide (x17_1 < (wrap64 ((wrap64 (a2)) + (wrap64 (1 + (Int.tmod (wrap64 (a3)) 24)))))))) = true then (some false) else (if x17_1 < (wrap64 ((wrap64 (a2)) + (wrap64 (1 + (Int.tmod (wrap64 (a3)) 24))))) then (rickyardlaw5_RunsPages.l0 kj18 t270 (wrap64 (1 + (Int.tmod (wrap64 (a1)) 24))) t273 t274 t275 t279 t282 (wrap64 (x17_1 + 1)) (wrap64 (a2)) (wrap64 (1 + (Int.tmod (wrap64 (a3)) 24)))) else (rickyardlaw5_RunsPages.l0 kj18 t270 (wrap64 (1 + (Int.tmod (wrap64 (a1)) 24))) t273 t274 t275 t279 t282 (wrap64 (x17_1 + 1)) (wrap64 (a2)) (wrap64 (1 + (Int.tmod (wrap64 (a3)) 24)))))) = some r := by rw [if_neg (show ¬ (false = true) by decide)] at H; exact H
            clear H
            have H := H1
            clear H1
            by_cases c55 : (t291 != (decide (x17_1 < (wrap64 ((wrap64 (a2)) + (wrap64 (1 + (Int.tmod (wrap64 (a3)) 24)))))))) = true
            ·rw [if_pos c55] at H
             have c55b0 : (t291 != (decide (x17_1 < (wrap64 ((wrap64 (a2)) + (wrap64 (1 + (Int.tmod (wrap64 (a3)) 24)))))))) = true := c55
             (try (have c55b1 : decide (t291 = (decide (x17_1 < (wrap64 ((wrap64 (a2)) + (wrap64 (1 + (Int.tmod (wrap64 (a3)) 24)))))))) = false := by simpa using c55))
             (try (have c55b2 : (t291 == (decide (x17_1 < (wrap64 ((wrap64 (a2)) + (wrap64 (1 + (Int.tmod (wrap64 (a3)) 24)))))))) = false := by simpa using c55))
             (try (have c55b3 : ¬ (t291 = (decide (x17_1 < (wrap64 ((wrap64 (a2)) + (wrap64 (1 + (Int.tmod (wrap64 (a3)) 24)))))))) := by simpa using c55))
             (try (have c55b4 : t291 = !(decide (x17_1 < (wrap64 ((wrap64 (a2)) + (wrap64 (1 + (Int.tmod (wrap64 (a3)) 24))))))) := (show ∀ p_ q_ : Bool, (p_ != q_) = true → p_ = !q_ from by decide) _ _ c55))
             clear c55
             obtain rfl := Option.some.inj H
             have hcz56_0 : wc.cell? ⟨gb278, 0, none⟩ = some (.int .i64 (wrap64 (a2))) := (blk_cell BK278.out 0).trans rfl
             have hcz56_1 : wc.cell? ⟨gb278, 1, none⟩ = some (.int .i64 (wrap64 (1 + (Int.tmod (wrap64 (a3)) 24)))) := (blk_cell BK278.out 1).trans rfl
             have hfz56_0 := blk_frozen BK278.out 0
             have hfz56_1 := blk_frozen BK278.out 1
             obtain ⟨Ao57, co57, eo57⟩ := Kd.R_slice HO_15.out
             subst eo57
             go_wp2_with (first | (go_at_call 19; (with_reducible refine (runs_Has.calls _ _ t279 x17_1 t291 _ ?side1 ?side2 A42.out).mono ?_); (case side1 => repeat (first | exact (Kd.R_reads' HO_15.out).2.2 | (with_reducible refine Kd.C_alloc ?_ _) | (with_reducible refine Kd.C_drewN ?_ _) | (with_reducible refine Kd.C_drew ?_))); (case side2 => exact (Kd.R_reads' HO_15.out).2.1); rintro e w58 ⟨rfl, hb⟩; have n0_ := Aside0.mk (Kd.R_below (by (with_reducible repeat (first | apply Kd.R_alloc | apply Kd.R_drewN | apply Kd.R_drew)); exact HO_9.out) hb); have n1_ := Aside0.mk (Kd.R_below (by (with_reducible repeat (first | apply Kd.R_alloc | apply Kd.R_drewN | apply Kd.R_drew)); exact HO_11.out) hb); have n2_ := Aside0.mk (Kd.R_below (by (with_reducible repeat (first | apply Kd.R_alloc | apply Kd.R_drewN | apply Kd.R_drew)); exact HO_15.out) hb); have n3_ := Aside0.mk (blk_below (g := gb278) (o := .cells #[.int .i64 (wrap64 (a2)), .int .i64 (wrap64 (1 + (Int.tmod (wrap64 (a3)) 24)))] 32 (0, 0)) (by (with_reducible repeat (first | refine blk_drewN ?_ _ | refine blk_drew ?_ | refine blk_alloc ?_ _)); exact BK278.out) hb); have n4_ := Aside0.mk (below_step (by repeat (first | (with_reducible first | exact HB.out | apply below_alloc | apply pw_below_drewN | apply below_drew1 | refine below_set ?_ GE278.out) | exact HB.out)) hb); clear HO_9; clear HO_11; clear HO_15; clear BK278; clear HB; have HO_9 := n0_; have HO_11 := n1_; have HO_15 := n2_; have BK278 := n3_; have HB := n4_; clear n0_ n1_ n2_ n3_ n4_; (try clear hb); (try clear hb2); (try clear hk); (try clear hi)))
             go_ret
             exact ⟨by first | rfl | (simp [errW_none, errW_some] <;> rfl) | (simp [*, errW_none, errW_some] <;> rfl), by repeat (first | (with_reducible first | exact HB.out | apply below_alloc | apply pw_below_drewN | apply below_drew1 | refine below_set ?_ GE278.out) | exact HB.out)⟩
            ·rw [if_neg c55] at H
             have c55b0 : (t291 != (decide (x17_1 < (wrap64 ((wrap64 (a2)) + (wrap64 (1 + (Int.tmod (wrap64 (a3)) 24)))))))) = false := by simpa using c55
             (try (have c55b1 : decide (t291 = (decide (x17_1 < (wrap64 ((wrap64 (a2)) + (wrap64 (1 + (Int.tmod (wrap64 (a3)) 24)))))))) = true := by simpa using c55))
             (try (have c55b2 : (t291 == (decide (x17_1 < (wrap64 ((wrap64 (a2)) + (wrap64 (1 + (Int.tmod (wrap64 (a3)) 24)))))))) = true := by simpa using c55))
             (try (have c55b3 : t291 = (decide (x17_1 < (wrap64 ((wrap64 (a2)) + (wrap64 (1 + (Int.tmod (wrap64 (a3)) 24))))))) := (show ∀ p_ q_ : Bool, ¬ ((p_ != q_) = true) → p_ = q_ from by decide) _ _ c55))
             clear c55
             by_cases c59 : x17_1 < (wrap64 ((wrap64 (a2)) + (wrap64 (1 + (Int.tmod (wrap64 (a3)) 24)))))
             ·rw [if_pos c59] at H
              have c59b0 : decide (x17_1 < (wrap64 ((wrap64 (a2)) + (wrap64 (1 + (Int.tmod (wrap64 (a3)) 24)))))) = true := decide_eq_true c59
              clear c59
              have H' := Aside0.mk H
              clear H
              have hcz60_0 : wc.cell? ⟨gb278, 0, none⟩ = some (.int .i64 (wrap64 (a2))) := (blk_cell BK278.out 0).trans rfl
              have hcz60_1 : wc.cell? ⟨gb278, 1, none⟩ = some (.int .i64 (wrap64 (1 + (Int.tmod (wrap64 (a3)) 24)))) := (blk_cell BK278.out 1).trans rfl
              have hfz60_0 := blk_frozen BK278.out 0
              have hfz60_1 := blk_frozen BK278.out 1
              obtain ⟨Ao61, co61, eo61⟩ := Kd.R_slice HO_15.out
              subst eo61
              go_wp2_with (first | (go_at_call 19; (with_reducible refine (runs_Has.calls _ _ t279 x17_1 t291 _ ?side1 ?side2 A42.out).mono ?_); (case side1 => repeat (first | exact (Kd.R_reads' HO_15.out).2.2 | (with_reducible refine Kd.C_alloc ?_ _) | (with_reducible refine Kd.C_drewN ?_ _) | (with_reducible refine Kd.C_drew ?_))); (case side2 => exact (Kd.R_reads' HO_15.out).2.1); rintro e w62 ⟨rfl, hb⟩; have n0_ := Aside0.mk (Kd.R_below (by (with_reducible repeat (first | apply Kd.R_alloc | apply Kd.R_drewN | apply Kd.R_drew)); exact HO_9.out) hb); have n1_ := Aside0.mk (Kd.R_below (by (with_reducible repeat (first | apply Kd.R_alloc | apply Kd.R_drewN | apply Kd.R_drew)); exact HO_11.out) hb); have n2_ := Aside0.mk (Kd.R_below (by (with_reducible repeat (first | apply Kd.R_alloc | apply Kd.R_drewN | apply Kd.R_drew)); exact HO_15.out) hb); have n3_ := Aside0.mk (blk_below (g := gb278) (o := .cells #[.int .i64 (wrap64 (a2)), .int .i64 (wrap64 (1 + (Int.tmod (wrap64 (a3)) 24)))] 32 (0, 0)) (by (with_reducible repeat (first | refine blk_drewN ?_ _ | refine blk_drew ?_ | refine blk_alloc ?_ _)); exact BK278.out) hb); have n4_ := Aside0.mk (below_step (by repeat (first | (with_reducible first | exact HB.out | apply below_alloc | apply pw_below_drewN | apply below_drew1 | refine below_set ?_ GE278.out) | exact HB.out)) hb); clear HO_9; clear HO_11; clear HO_15; clear BK278; clear HB; have HO_9 := n0_; have HO_11 := n1_; have HO_15 := n2_; have BK278 := n3_; have HB := n4_; clear n0_ n1_ n2_ n3_ n4_; (try clear hb); (try clear hb2); (try clear hk); (try clear hi)))
              go_roundg kj18
              case measure => have := HK1.out; have := HJ15.out; have := HJ18.out; omega
              case rel => exact ⟨(wrap64 (x17_1 + 1)), (by first | rfl | (simp; done) | (simp [*]; done)), H', ⟨by have := HK1.out; have := HJ15.out; have := HJ18.out; omega⟩, ⟨by (with_reducible repeat (first | apply Kd.R_alloc | apply Kd.R_drewN | apply Kd.R_drew)); exact HO_9.out⟩, ⟨by (with_reducible repeat (first | apply Kd.R_alloc | apply Kd.R_drewN | apply Kd.R_drew)); exact HO_11.out⟩, ⟨by (with_reducible repeat (first | apply Kd.R_alloc | apply Kd.R_drewN | apply Kd.R_drew)); exact HO_15.out⟩, ⟨by (with_reducible repeat (first | refine blk_drewN ?_ _ | refine blk_drew ?_ | refine blk_alloc ?_ _)); exact BK278.out⟩, ⟨by repeat (first | (with_reducible first | exact HB.out | apply below_alloc | apply pw_below_drewN | apply below_drew1 | refine below_set ?_ GE278.out) | exact HB.out)⟩⟩
             ·rw [if_neg c59] at H
              have c59b0 : decide (x17_1 < (wrap64 ((wrap64 (a2)) + (wrap64 (1 + (Int.tmod (wrap64 (a3)) 24)))))) = false := decide_eq_false c59
              clear c59
              have H' := Aside0.mk H
              clear H
              have hcz63_0 : wc.cell? ⟨gb278, 0, none⟩ = some (.int .i64 (wrap64 (a2))) := (blk_cell BK278.out 0).trans rfl
              have hcz63_1 : wc.cell? ⟨gb278, 1, none⟩ = some (.int .i64 (wrap64 (1 + (Int.tmod (wrap64 (a3)) 24)))) := (blk_cell BK278.out 1).trans rfl
              have hfz63_0 := blk_frozen BK278.out 0
              have hfz63_1 := blk_frozen BK278.out 1
              obtain ⟨Ao64, co64, eo64⟩ := Kd.R_slice HO_15.out
              subst eo64
              go_wp2_with (first | (go_at_call 19; (with_reducible refine (runs_Has.calls _ _ t279 x17_1 t291 _ ?side1 ?side2 A42.out).mono ?_); (case side1 => repeat (first | exact (Kd.R_reads' HO_15.out).2.2 | (with_reducible refine Kd.C_alloc ?_ _) | (with_reducible refine Kd.C_drewN ?_ _) | (with_reducible refine Kd.C_drew ?_))); (case side2 => exact (Kd.R_reads' HO_15.out).2.1); rintro e w65 ⟨rfl, hb⟩; have n0_ := Aside0.mk (Kd.R_below (by (with_reducible repeat (first | apply Kd.R_alloc | apply Kd.R_drewN | apply Kd.R_drew)); exact HO_9.out) hb); have n1_ := Aside0.mk (Kd.R_below (by (with_reducible repeat (first | apply Kd.R_alloc | apply Kd.R_drewN | apply Kd.R_drew)); exact HO_11.out) hb); have n2_ := Aside0.mk (Kd.R_below (by (with_reducible repeat (first | apply Kd.R_alloc | apply Kd.R_drewN | apply Kd.R_drew)); exact HO_15.out) hb); have n3_ := Aside0.mk (blk_below (g := gb278) (o := .cells #[.int .i64 (wrap64 (a2)), .int .i64 (wrap64 (1 + (Int.tmod (wrap64 (a3)) 24)))] 32 (0, 0)) (by (with_reducible repeat (first | refine blk_drewN ?_ _ | refine blk_drew ?_ | refine blk_alloc ?_ _)); exact BK278.out) hb); have n4_ := Aside0.mk (below_step (by repeat (first | (with_reducible first | exact HB.out | apply below_alloc | apply pw_below_drewN | apply below_drew1 | refine below_set ?_ GE278.out) | exact HB.out)) hb); clear HO_9; clear HO_11; clear HO_15; clear BK278; clear HB; have HO_9 := n0_; have HO_11 := n1_; have HO_15 := n2_; have BK278 := n3_; have HB := n4_; clear n0_ n1_ n2_ n3_ n4_; (try clear hb); (try clear hb2); (try clear hk); (try clear hi)))
              go_roundg kj18
              case measure => have := HK1.out; have := HJ15.out; have := HJ18.out; omega
              case rel => exact ⟨(wrap64 (x17_1 + 1)), (by first | rfl | (simp; done) | (simp [*]; done)), H', ⟨by have := HK1.out; have := HJ15.out; have := HJ18.out; omega⟩, ⟨by (with_reducible repeat (first | apply Kd.R_alloc | apply Kd.R_drewN | apply Kd.R_drew)); exact HO_9.out⟩, ⟨by (with_reducible repeat (first | apply Kd.R_alloc | apply Kd.R_drewN | apply Kd.R_drew)); exact HO_11.out⟩, ⟨by (with_reducible repeat (first | apply Kd.R_alloc | apply Kd.R_drewN | apply Kd.R_drew)); exact HO_15.out⟩, ⟨by (with_reducible repeat (first | refine blk_drewN ?_ _ | refine blk_drew ?_ | refine blk_alloc ?_ _)); exact BK278.out⟩, ⟨by repeat (first | (with_reducible first | exact HB.out | apply below_alloc | apply pw_below_drewN | apply below_drew1 | refine below_set ?_ GE278.out) | exact HB.out)⟩⟩
          ·rw [if_neg c41] at H
           have c41b0 : (t282 == 0) = false := beq_eq_false_iff_ne.mpr c41
           have c41b1 : (t282 != 0) = true := bne_iff_ne.mpr c41
           have H' := Aside0.mk H
           clear H
           have hcz66_0 : wc.cell? ⟨gb278, 0, none⟩ = some (.int .i64 (wrap64 (a2))) := (blk_cell BK278.out 0).trans rfl
           have hcz66_1 : wc.cell? ⟨gb278, 1, none⟩ = some (.int .i64 (wrap64 (1 + (Int.tmod (wrap64 (a3)) 24)))) := (blk_cell BK278.out 1).trans rfl
           have hfz66_0 := blk_frozen BK278.out 0
           have hfz66_1 := blk_frozen BK278.out 1
           go_wp2
           go_roundg kj18
           case measure => have := HK1.out; have := HJ15.out; have := HJ18.out; omega
           case rel => exact ⟨(wrap64 (x17_1 + 1)), (by first | rfl | (simp; done) | (simp [*]; done)), H', ⟨by have := HK1.out; have := HJ15.out; have := HJ18.out; omega⟩, ⟨by (with_reducible repeat (first | apply Kd.R_alloc | apply Kd.R_drewN | apply Kd.R_drew)); exact HO_9.out⟩, ⟨by (with_reducible repeat (first | apply Kd.R_alloc | apply Kd.R_drewN | apply Kd.R_drew)); exact HO_11.out⟩, ⟨by (with_reducible repeat (first | apply Kd.R_alloc | apply Kd.R_drewN | apply Kd.R_drew)); exact HO_15.out⟩, ⟨by (with_reducible repeat (first | refine blk_drewN ?_ _ | refine blk_drew ?_ | refine blk_alloc ?_ _)); exact BK278.out⟩, ⟨by repeat (first | (with_reducible first | exact HB.out | apply below_alloc | apply pw_below_drewN | apply below_drew1 | refine below_set ?_ GE278.out) | exact HB.out)⟩⟩
         ·rw [if_neg c40] at H
          have c40b0 : decide ((wrap64 (a2)) ≤ x17_1) = false := decide_eq_false c40
          clear c40
          by_cases c67 : t282 = 0
          ·rw [if_pos c67] at H
           have c67b0 : (t282 == 0) = true := beq_iff_eq.mpr c67
           have c67b1 : (t282 != 0) = false := bne_eq_false_iff_eq.mpr c67
           clear c67
           replace H := Option.bind_eq_some_iff.mp H
           obtain ⟨t292, A680, H⟩ := H
           replace H : (if t289 = true then (if (t292 != true) = true then (some false) else (rickyardlaw5_RunsPages.l0 kj18 t270 (wrap64 (1 + (Int.tmod (wrap64 (a1)) 24))) t273 t274 t275 t279 t282 (wrap64 (x17_1 + 1)) (wrap64 (a2)) (wrap64 (1 + (Int.tmod (wrap64 (a3)) 24))))) else (if (t292 != false) = true then (some false) else (rickyardlaw5_RunsPages.l0 kj18 t270 (wrap64 (1 + (Int.tmod (wrap64 (a1)) 24))) t273 t274 t275 t279 t282 (wrap64 (x17_1 + 1)) (wrap64 (a2)) (wrap64 (1 + (Int.tmod (wrap64 (a3)) 24)))))) = some r := H
           have A68 := Aside0.mk A680
           clear A680
           by_cases c69 : t289 = true
           ·subst c69
            have H1 : (if (t292 != true) = true then (some false) else (rickyardlaw5_RunsPages.l0 kj18 t270 (wrap64 (1 + (Int.tmod (wrap64 (a1)) 24))) t273 t274 t275 t279 t282 (wrap64 (x17_1 + 1)) (wrap64 (a2)) (wrap64 (1 + (Int.tmod (wrap64 (a3)) 24))))) = some r := by rw [if_pos rfl] at H; exact H
            clear H
            have H := H1
            clear H1
            by_cases c70 : (t292 != true) = true
            ·rw [if_pos c70] at H
             have c70b0 : (t292 != true) = true := c70
             (try (have c70b1 : decide (t292 = true) = false := by simpa using c70))
             (try (have c70b2 : (t292 == true) = false := by simpa using c70))
             (try (have c70b3 : ¬ (t292 = true) := by simpa using c70))
             (try (have c70b4 : t292 = !true := (show ∀ p_ q_ : Bool, (p_ != q_) = true → p_ = !q_ from by decide) _ _ c70))
             clear c70
             obtain rfl := Option.some.inj H
             have hcz71_0 : wc.cell? ⟨gb278, 0, none⟩ = some (.int .i64 (wrap64 (a2))) := (blk_cell BK278.out 0).trans rfl
             have hcz71_1 : wc.cell? ⟨gb278, 1, none⟩ = some (.int .i64 (wrap64 (1 + (Int.tmod (wrap64 (a3)) 24)))) := (blk_cell BK278.out 1).trans rfl
             have hfz71_0 := blk_frozen BK278.out 0
             have hfz71_1 := blk_frozen BK278.out 1
             obtain ⟨Ao72, co72, eo72⟩ := Kd.R_slice HO_15.out
             subst eo72
             go_wp2_with (first | (go_at_call 19; (with_reducible refine (runs_Has.calls _ _ t279 x17_1 t292 _ ?side1 ?side2 A68.out).mono ?_); (case side1 => repeat (first | exact (Kd.R_reads' HO_15.out).2.2 | (with_reducible refine Kd.C_alloc ?_ _) | (with_reducible refine Kd.C_drewN ?_ _) | (with_reducible refine Kd.C_drew ?_))); (case side2 => exact (Kd.R_reads' HO_15.out).2.1); rintro e w73 ⟨rfl, hb⟩; have n0_ := Aside0.mk (Kd.R_below (by (with_reducible repeat (first | apply Kd.R_alloc | apply Kd.R_drewN | apply Kd.R_drew)); exact HO_9.out) hb); have n1_ := Aside0.mk (Kd.R_below (by (with_reducible repeat (first | apply Kd.R_alloc | apply Kd.R_drewN | apply Kd.R_drew)); exact HO_11.out) hb); have n2_ := Aside0.mk (Kd.R_below (by (with_reducible repeat (first | apply Kd.R_alloc | apply Kd.R_drewN | apply Kd.R_drew)); exact HO_15.out) hb); have n3_ := Aside0.mk (blk_below (g := gb278) (o := .cells #[.int .i64 (wrap64 (a2)), .int .i64 (wrap64 (1 + (Int.tmod (wrap64 (a3)) 24)))] 32 (0, 0)) (by (with_reducible repeat (first | refine blk_drewN ?_ _ | refine blk_drew ?_ | refine blk_alloc ?_ _)); exact BK278.out) hb); have n4_ := Aside0.mk (below_step (by repeat (first | (with_reducible first | exact HB.out | apply below_alloc | apply pw_below_drewN | apply below_drew1 | refine below_set ?_ GE278.out) | exact HB.out)) hb); clear HO_9; clear HO_11; clear HO_15; clear BK278; clear HB; have HO_9 := n0_; have HO_11 := n1_; have HO_15 := n2_; have BK278 := n3_; have HB := n4_; clear n0_ n1_ n2_ n3_ n4_; (try clear hb); (try clear hb2); (try clear hk); (try clear hi)))
             go_ret
             exact ⟨by first | rfl | (simp [errW_none, errW_some] <;> rfl) | (simp [*, errW_none, errW_some] <;> rfl), by repeat (first | (with_reducible first | exact HB.out | apply below_alloc | apply pw_below_drewN | apply below_drew1 | refine below_set ?_ GE278.out) | exact HB.out)⟩
            ·rw [if_neg c70] at H
             have c70b0 : (t292 != true) = false := by simpa using c70
             (try (have c70b1 : decide (t292 = true) = true := by simpa using c70))
             (try (have c70b2 : (t292 == true) = true := by simpa using c70))
             (try (have c70b3 : t292 = true := (show ∀ p_ q_ : Bool, ¬ ((p_ != q_) = true) → p_ = q_ from by decide) _ _ c70))
             clear c70
             have H' := Aside0.mk H
             clear H
             have hcz74_0 : wc.cell? ⟨gb278, 0, none⟩ = some (.int .i64 (wrap64 (a2))) := (blk_cell BK278.out 0).trans rfl
             have hcz74_1 : wc.cell? ⟨gb278, 1, none⟩ = some (.int .i64 (wrap64 (1 + (Int.tmod (wrap64 (a3)) 24)))) := (blk_cell BK278.out 1).trans rfl
             have hfz74_0 := blk_frozen BK278.out 0
             have hfz74_1 := blk_frozen BK278.out 1
             obtain ⟨Ao75, co75, eo75⟩ := Kd.R_slice HO_15.out
             subst eo75
             go_wp2_with (first | (go_at_call 19; (with_reducible refine (runs_Has.calls _ _ t279 x17_1 t292 _ ?side1 ?side2 A68.out).mono ?_); (case side1 => repeat (first | exact (Kd.R_reads' HO_15.out).2.2 | (with_reducible refine Kd.C_alloc ?_ _) | (with_reducible refine Kd.C_drewN ?_ _) | (with_reducible refine Kd.C_drew ?_))); (case side2 => exact (Kd.R_reads' HO_15.out).2.1); rintro e w76 ⟨rfl, hb⟩; have n0_ := Aside0.mk (Kd.R_below (by (with_reducible repeat (first | apply Kd.R_alloc | apply Kd.R_drewN | apply Kd.R_drew)); exact HO_9.out) hb); have n1_ := Aside0.mk (Kd.R_below (by (with_reducible repeat (first | apply Kd.R_alloc | apply Kd.R_drewN | apply Kd.R_drew)); exact HO_11.out) hb); have n2_ := Aside0.mk (Kd.R_below (by (with_reducible repeat (first | apply Kd.R_alloc | apply Kd.R_drewN | apply Kd.R_drew)); exact HO_15.out) hb); have n3_ := Aside0.mk (blk_below (g := gb278) (o := .cells #[.int .i64 (wrap64 (a2)), .int .i64 (wrap64 (1 + (Int.tmod (wrap64 (a3)) 24)))] 32 (0, 0)) (by (with_reducible repeat (first | refine blk_drewN ?_ _ | refine blk_drew ?_ | refine blk_alloc ?_ _)); exact BK278.out) hb); have n4_ := Aside0.mk (below_step (by repeat (first | (with_reducible first | exact HB.out | apply below_alloc | apply pw_below_drewN | apply below_drew1 | refine below_set ?_ GE278.out) | exact HB.out)) hb); clear HO_9; clear HO_11; clear HO_15; clear BK278; clear HB; have HO_9 := n0_; have HO_11 := n1_; have HO_15 := n2_; have BK278 := n3_; have HB := n4_; clear n0_ n1_ n2_ n3_ n4_; (try clear hb); (try clear hb2); (try clear hk); (try clear hi)))
             go_roundg kj18
             case measure => have := HK1.out; have := HJ15.out; have := HJ18.out; omega
             case rel => exact ⟨(wrap64 (x17_1 + 1)), (by first | rfl | (simp; done) | (simp [*]; done)), H', ⟨by have := HK1.out; have := HJ15.out; have := HJ18.out; omega⟩, ⟨by (with_reducible repeat (first | apply Kd.R_alloc | apply Kd.R_drewN | apply Kd.R_drew)); exact HO_9.out⟩, ⟨by (with_reducible repeat (first | apply Kd.R_alloc | apply Kd.R_drewN | apply Kd.R_drew)); exact HO_11.out⟩, ⟨by (with_reducible repeat (first | apply Kd.R_alloc | apply Kd.R_drewN | apply Kd.R_drew)); exact HO_15.out⟩, ⟨by (with_reducible repeat (first | refine blk_drewN ?_ _ | refine blk_drew ?_ | refine blk_alloc ?_ _)); exact BK278.out⟩, ⟨by repeat (first | (with_reducible first | exact HB.out | apply below_alloc | apply pw_below_drewN | apply below_drew1 | refine below_set ?_ GE278.out) | exact HB.out)⟩⟩
           ·replace c69 := Bool.eq_false_iff.mpr c69
            subst c69
            have H1 : (if (t292 != false) = true then (some false) else (rickyardlaw5_RunsPages.l0 kj18 t270 (wrap64 (1 + (Int.tmod (wrap64 (a1)) 24))) t273 t274 t275 t279 t282 (wrap64 (x17_1 + 1)) (wrap64 (a2)) (wrap64 (1 + (Int.tmod (wrap64 (a3)) 24))))) = some r := by rw [if_neg (show ¬ (false = true) by decide)] at H; exact H
            clear H
            have H := H1
            clear H1
            by_cases c77 : (t292 != false) = true
            ·rw [if_pos c77] at H
             have c77b0 : (t292 != false) = true := c77
             (try (have c77b1 : decide (t292 = false) = false := by simpa using c77))
             (try (have c77b2 : (t292 == false) = false := by simpa using c77))
             (try (have c77b3 : ¬ (t292 = false) := by simpa using c77))
             (try (have c77b4 : t292 = !false := (show ∀ p_ q_ : Bool, (p_ != q_) = true → p_ = !q_ from by decide) _ _ c77))
             clear c77
             obtain rfl := Option.some.inj H
             have hcz78_0 : wc.cell? ⟨gb278, 0, none⟩ = some (.int .i64 (wrap64 (a2))) := (blk_cell BK278.out 0).trans rfl
             have hcz78_1 : wc.cell? ⟨gb278, 1, none⟩ = some (.int .i64 (wrap64 (1 + (Int.tmod (wrap64 (a3)) 24)))) := (blk_cell BK278.out 1).trans rfl
             have hfz78_0 := blk_frozen BK278.out 0
             have hfz78_1 := blk_frozen BK278.out 1
             obtain ⟨Ao79, co79, eo79⟩ := Kd.R_slice HO_15.out
             subst eo79
             go_wp2_with (first | (go_at_call 19; (with_reducible refine (runs_Has.calls _ _ t279 x17_1 t292 _ ?side1 ?side2 A68.out).mono ?_); (case side1 => repeat (first | exact (Kd.R_reads' HO_15.out).2.2 | (with_reducible refine Kd.C_alloc ?_ _) | (with_reducible refine Kd.C_drewN ?_ _) | (with_reducible refine Kd.C_drew ?_))); (case side2 => exact (Kd.R_reads' HO_15.out).2.1); rintro e w80 ⟨rfl, hb⟩; have n0_ := Aside0.mk (Kd.R_below (by (with_reducible repeat (first | apply Kd.R_alloc | apply Kd.R_drewN | apply Kd.R_drew)); exact HO_9.out) hb); have n1_ := Aside0.mk (Kd.R_below (by (with_reducible repeat (first | apply Kd.R_alloc | apply Kd.R_drewN | apply Kd.R_drew)); exact HO_11.out) hb); have n2_ := Aside0.mk (Kd.R_below (by (with_reducible repeat (first | apply Kd.R_alloc | apply Kd.R_drewN | apply Kd.R_drew)); exact HO_15.out) hb); have n3_ := Aside0.mk (blk_below (g := gb278) (o := .cells #[.int .i64 (wrap64 (a2)), .int .i64 (wrap64 (1 + (Int.tmod (wrap64 (a3)) 24)))] 32 (0, 0)) (by (with_reducible repeat (first | refine blk_drewN ?_ _ | refine blk_drew ?_ | refine blk_alloc ?_ _)); exact BK278.out) hb); have n4_ := Aside0.mk (below_step (by repeat (first | (with_reducible first | exact HB.out | apply below_alloc | apply pw_below_drewN | apply below_drew1 | refine below_set ?_ GE278.out) | exact HB.out)) hb); clear HO_9; clear HO_11; clear HO_15; clear BK278; clear HB; have HO_9 := n0_; have HO_11 := n1_; have HO_15 := n2_; have BK278 := n3_; have HB := n4_; clear n0_ n1_ n2_ n3_ n4_; (try clear hb); (try clear hb2); (try clear hk); (try clear hi)))
             go_ret
             exact ⟨by first | rfl | (simp [errW_none, errW_some] <;> rfl) | (simp [*, errW_none, errW_some] <;> rfl), by repeat (first | (with_reducible first | exact HB.out | apply below_alloc | apply pw_below_drewN | apply below_drew1 | refine below_set ?_ GE278.out) | exact HB.out)⟩
            ·rw [if_neg c77] at H
             have c77b0 : (t292 != false) = false := by simpa using c77
             (try (have c77b1 : decide (t292 = false) = true := by simpa using c77))
             (try (have c77b2 : (t292 == false) = true := by simpa using c77))
             (try (have c77b3 : t292 = false := (show ∀ p_ q_ : Bool, ¬ ((p_ != q_) = true) → p_ = q_ from by decide) _ _ c77))
             clear c77
             have H' := Aside0.mk H
             clear H
             have hcz81_0 : wc.cell? ⟨gb278, 0, none⟩ = some (.int .i64 (wrap64 (a2))) := (blk_cell BK278.out 0).trans rfl
             have hcz81_1 : wc.cell? ⟨gb278, 1, none⟩ = some (.int .i64 (wrap64 (1 + (Int.tmod (wrap64 (a3)) 24)))) := (blk_cell BK278.out 1).trans rfl
             have hfz81_0 := blk_frozen BK278.out 0
             have hfz81_1 := blk_frozen BK278.out 1
             obtain ⟨Ao82, co82, eo82⟩ := Kd.R_slice HO_15.out
             subst eo82
             go_wp2_with (first | (go_at_call 19; (with_reducible refine (runs_Has.calls _ _ t279 x17_1 t292 _ ?side1 ?side2 A68.out).mono ?_); (case side1 => repeat (first | exact (Kd.R_reads' HO_15.out).2.2 | (with_reducible refine Kd.C_alloc ?_ _) | (with_reducible refine Kd.C_drewN ?_ _) | (with_reducible refine Kd.C_drew ?_))); (case side2 => exact (Kd.R_reads' HO_15.out).2.1); rintro e w83 ⟨rfl, hb⟩; have n0_ := Aside0.mk (Kd.R_below (by (with_reducible repeat (first | apply Kd.R_alloc | apply Kd.R_drewN | apply Kd.R_drew)); exact HO_9.out) hb); have n1_ := Aside0.mk (Kd.R_below (by (with_reducible repeat (first | apply Kd.R_alloc | apply Kd.R_drewN | apply Kd.R_drew)); exact HO_11.out) hb); have n2_ := Aside0.mk (Kd.R_below (by (with_reducible repeat (first | apply Kd.R_alloc | apply Kd.R_drewN | apply Kd.R_drew)); exact HO_15.out) hb); have n3_ := Aside0.mk (blk_below (g := gb278) (o := .cells #[.int .i64 (wrap64 (a2)), .int .i64 (wrap64 (1 + (Int.tmod (wrap64 (a3)) 24)))] 32 (0, 0)) (by (with_reducible repeat (first | refine blk_drewN ?_ _ | refine blk_drew ?_ | refine blk_alloc ?_ _)); exact BK278.out) hb); have n4_ := Aside0.mk (below_step (by repeat (first | (with_reducible first | exact HB.out | apply below_alloc | apply pw_below_drewN | apply below_drew1 | refine below_set ?_ GE278.out) | exact HB.out)) hb); clear HO_9; clear HO_11; clear HO_15; clear BK278; clear HB; have HO_9 := n0_; have HO_11 := n1_; have HO_15 := n2_; have BK278 := n3_; have HB := n4_; clear n0_ n1_ n2_ n3_ n4_; (try clear hb); (try clear hb2); (try clear hk); (try clear hi)))
             go_roundg kj18
             case measure => have := HK1.out; have := HJ15.out; have := HJ18.out; omega
             case rel => exact ⟨(wrap64 (x17_1 + 1)), (by first | rfl | (simp; done) | (simp [*]; done)), H', ⟨by have := HK1.out; have := HJ15.out; have := HJ18.out; omega⟩, ⟨by (with_reducible repeat (first | apply Kd.R_alloc | apply Kd.R_drewN | apply Kd.R_drew)); exact HO_9.out⟩, ⟨by (with_reducible repeat (first | apply Kd.R_alloc | apply Kd.R_drewN | apply Kd.R_drew)); exact HO_11.out⟩, ⟨by (with_reducible repeat (first | apply Kd.R_alloc | apply Kd.R_drewN | apply Kd.R_drew)); exact HO_15.out⟩, ⟨by (with_reducible repeat (first | refine blk_drewN ?_ _ | refine blk_drew ?_ | refine blk_alloc ?_ _)); exact BK278.out⟩, ⟨by repeat (first | (with_reducible first | exact HB.out | apply below_alloc | apply pw_below_drewN | apply below_drew1 | refine below_set ?_ GE278.out) | exact HB.out)⟩⟩
          ·rw [if_neg c67] at H
           have c67b0 : (t282 == 0) = false := beq_eq_false_iff_ne.mpr c67
           have c67b1 : (t282 != 0) = true := bne_iff_ne.mpr c67
           have H' := Aside0.mk H
           clear H
           have hcz84_0 : wc.cell? ⟨gb278, 0, none⟩ = some (.int .i64 (wrap64 (a2))) := (blk_cell BK278.out 0).trans rfl
           have hcz84_1 : wc.cell? ⟨gb278, 1, none⟩ = some (.int .i64 (wrap64 (1 + (Int.tmod (wrap64 (a3)) 24)))) := (blk_cell BK278.out 1).trans rfl
           have hfz84_0 := blk_frozen BK278.out 0
           have hfz84_1 := blk_frozen BK278.out 1
           go_wp2
           go_roundg kj18
           case measure => have := HK1.out; have := HJ15.out; have := HJ18.out; omega
           case rel => exact ⟨(wrap64 (x17_1 + 1)), (by first | rfl | (simp; done) | (simp [*]; done)), H', ⟨by have := HK1.out; have := HJ15.out; have := HJ18.out; omega⟩, ⟨by (with_reducible repeat (first | apply Kd.R_alloc | apply Kd.R_drewN | apply Kd.R_drew)); exact HO_9.out⟩, ⟨by (with_reducible repeat (first | apply Kd.R_alloc | apply Kd.R_drewN | apply Kd.R_drew)); exact HO_11.out⟩, ⟨by (with_reducible repeat (first | apply Kd.R_alloc | apply Kd.R_drewN | apply Kd.R_drew)); exact HO_15.out⟩, ⟨by (with_reducible repeat (first | refine blk_drewN ?_ _ | refine blk_drew ?_ | refine blk_alloc ?_ _)); exact BK278.out⟩, ⟨by repeat (first | (with_reducible first | exact HB.out | apply below_alloc | apply pw_below_drewN | apply below_drew1 | refine below_set ?_ GE278.out) | exact HB.out)⟩⟩
   ·rw [if_neg c14] at H
    have c14b0 : decide (x17_1 < 256) = false := decide_eq_false c14
    clear c14
    by_cases c85 : t275 = 0
    ·rw [if_pos c85] at H
     have c85b0 : (t275 == 0) = true := beq_iff_eq.mpr c85
     have c85b1 : (t275 != 0) = false := bne_eq_false_iff_eq.mpr c85
     clear c85
     by_cases c86 : t282 = 0
     ·rw [if_pos c86] at H
      have c86b0 : (t282 == 0) = true := beq_iff_eq.mpr c86
      have c86b1 : (t282 != 0) = false := bne_eq_false_iff_eq.mpr c86
      clear c86
      replace H := Option.bind_eq_some_iff.mp H
      obtain ⟨t283, A870, H⟩ := H
      replace H : (some t283) = some r := H
      have A87 := Aside0.mk A870
      clear A870
      obtain rfl := Option.some.inj H
      go_wp2_with (first | (go_at_call 16; (with_reducible refine (rickyardlaw5_awake.calls k1  t283 _ A87.out).mono ?_); rintro e w88 ⟨rfl, hb⟩; have n0_ := Aside0.mk (Kd.R_below (by (with_reducible repeat (first | apply Kd.R_alloc | apply Kd.R_drewN | apply Kd.R_drew)); exact HO_9.out) hb); have n1_ := Aside0.mk (Kd.R_below (by (with_reducible repeat (first | apply Kd.R_alloc | apply Kd.R_drewN | apply Kd.R_drew)); exact HO_11.out) hb); have n2_ := Aside0.mk (Kd.R_below (by (with_reducible repeat (first | apply Kd.R_alloc | apply Kd.R_drewN | apply Kd.R_drew)); exact HO_15.out) hb); have n3_ := Aside0.mk (blk_below (g := gb278) (o := .cells #[.int .i64 (wrap64 (a2)), .int .i64 (wrap64 (1 + (Int.tmod (wrap64 (a3)) 24)))] 32 (0, 0)) (by (with_reducible repeat (first | refine blk_drewN ?_ _ | refine blk_drew ?_ | refine blk_alloc ?_ _)); exact BK278.out) hb); have n4_ := Aside0.mk (below_step (by repeat (first | (with_reducible first | exact HB.out | apply below_alloc | apply pw_below_drewN | apply below_drew1 | refine below_set ?_ GE278.out) | exact HB.out)) hb); clear HO_9; clear HO_11; clear HO_15; clear BK278; clear HB; have HO_9 := n0_; have HO_11 := n1_; have HO_15 := n2_; have BK278 := n3_; have HB := n4_; clear n0_ n1_ n2_ n3_ n4_; (try clear hb); (try clear hb2); (try clear hk); (try clear hi)))
      go_ret
      exact ⟨by first | rfl | (simp [errW_none, errW_some] <;> rfl) | (simp [*, errW_none, errW_some] <;> rfl), by repeat (first | (with_reducible first | exact HB.out | apply below_alloc | apply pw_below_drewN | apply below_drew1 | refine below_set ?_ GE278.out) | exact HB.out)⟩
     ·rw [if_neg c86] at H
      have c86b0 : (t282 == 0) = false := beq_eq_false_iff_ne.mpr c86
      have c86b1 : (t282 != 0) = true := bne_iff_ne.mpr c86
      by_cases c89 : t282 = 4
      ·rw [if_pos c89] at H
       have c89b0 : (t282 == 4) = true := beq_iff_eq.mpr c89
       have c89b1 : (t282 != 4) = false := bne_eq_false_iff_eq.mpr c89
       clear c89
       replace H := Option.bind_eq_some_iff.mp H
       obtain ⟨t284, A900, H⟩ := H
       replace H : (some t284) = some r := H
       have A90 := Aside0.mk A900
       clear A900
       obtain rfl := Option.some.inj H
       go_wp2_with (first | (go_at_call 16; (with_reducible refine (rickyardlaw5_awake.calls k1  t284 _ A90.out).mono ?_); rintro e w91 ⟨rfl, hb⟩; have n0_ := Aside0.mk (Kd.R_below (by (with_reducible repeat (first | apply Kd.R_alloc | apply Kd.R_drewN | apply Kd.R_drew)); exact HO_9.out) hb); have n1_ := Aside0.mk (Kd.R_below (by (with_reducible repeat (first | apply Kd.R_alloc | apply Kd.R_drewN | apply Kd.R_drew)); exact HO_11.out) hb); have n2_ := Aside0.mk (Kd.R_below (by (with_reducible repeat (first | apply Kd.R_alloc | apply Kd.R_drewN | apply Kd.R_drew)); exact HO_15.out) hb); have n3_ := Aside0.mk (blk_below (g := gb278) (o := .cells #[.int .i64 (wrap64 (a2)), .int .i64 (wrap64 (1 + (Int.tmod (wrap64 (a3)) 24)))] 32 (0, 0)) (by (with_reducible repeat (first | refine blk_drewN ?_ _ | refine blk_drew ?_ | refine blk_alloc ?_ _)); exact BK278.out) hb); have n4_ := Aside0.mk (below_step (by repeat (first | (with_reducible first | exact HB.out | apply below_alloc | apply pw_below_drewN | apply below_drew1 | refine below_set ?_ GE278.out) | exact HB.out)) hb); clear HO_9; clear HO_11; clear HO_15; clear BK278; clear HB; have HO_9 := n0_; have HO_11 := n1_; have HO_15 := n2_; have BK278 := n3_; have HB := n4_; clear n0_ n1_ n2_ n3_ n4_; (try clear hb); (try clear hb2); (try clear hk); (try clear hi)))
       go_ret
       exact ⟨by first | rfl | (simp [errW_none, errW_some] <;> rfl) | (simp [*, errW_none, errW_some] <;> rfl), by repeat (first | (with_reducible first | exact HB.out | apply below_alloc | apply pw_below_drewN | apply below_drew1 | refine below_set ?_ GE278.out) | exact HB.out)⟩
      ·rw [if_neg c89] at H
       have c89b0 : (t282 == 4) = false := beq_eq_false_iff_ne.mpr c89
       have c89b1 : (t282 != 4) = true := bne_iff_ne.mpr c89
       by_cases c92 : t282 = 1
       ·rw [if_pos c92] at H
        have c92b0 : (t282 == 1) = true := beq_iff_eq.mpr c92
        have c92b1 : (t282 != 1) = false := bne_eq_false_iff_eq.mpr c92
        clear c92
        by_cases c93 : (wrap64 (1 + (Int.tmod (wrap64 (a3)) 24))) > (wrap64 (256 - (wrap64 (a2))))
        ·rw [if_pos c93] at H
         have c93b0 : decide ((wrap64 (256 - (wrap64 (a2)))) < (wrap64 (1 + (Int.tmod (wrap64 (a3)) 24)))) = true := decide_eq_true c93
         clear c93
         replace H := Option.bind_eq_some_iff.mp H
         obtain ⟨t285, A940, H⟩ := H
         replace H : (some t285) = some r := H
         have A94 := Aside0.mk A940
         clear A940
         obtain rfl := Option.some.inj H
         have hcz95_0 : wr.cell? ⟨gb278, 0, none⟩ = some (.int .i64 (wrap64 (a2))) := (blk_cell BK278.out 0).trans rfl
         have hcz95_1 : wr.cell? ⟨gb278, 1, none⟩ = some (.int .i64 (wrap64 (1 + (Int.tmod (wrap64 (a3)) 24)))) := (blk_cell BK278.out 1).trans rfl
         have hfz95_0 := blk_frozen BK278.out 0
         have hfz95_1 := blk_frozen BK278.out 1
         go_wp2_with (first | (go_at_call 16; (with_reducible refine (rickyardlaw5_awake.calls k1  t285 _ A94.out).mono ?_); rintro e w96 ⟨rfl, hb⟩; have n0_ := Aside0.mk (Kd.R_below (by (with_reducible repeat (first | apply Kd.R_alloc | apply Kd.R_drewN | apply Kd.R_drew)); exact HO_9.out) hb); have n1_ := Aside0.mk (Kd.R_below (by (with_reducible repeat (first | apply Kd.R_alloc | apply Kd.R_drewN | apply Kd.R_drew)); exact HO_11.out) hb); have n2_ := Aside0.mk (Kd.R_below (by (with_reducible repeat (first | apply Kd.R_alloc | apply Kd.R_drewN | apply Kd.R_drew)); exact HO_15.out) hb); have n3_ := Aside0.mk (blk_below (g := gb278) (o := .cells #[.int .i64 (wrap64 (a2)), .int .i64 (wrap64 (1 + (Int.tmod (wrap64 (a3)) 24)))] 32 (0, 0)) (by (with_reducible repeat (first | refine blk_drewN ?_ _ | refine blk_drew ?_ | refine blk_alloc ?_ _)); exact BK278.out) hb); have n4_ := Aside0.mk (below_step (by repeat (first | (with_reducible first | exact HB.out | apply below_alloc | apply pw_below_drewN | apply below_drew1 | refine below_set ?_ GE278.out) | exact HB.out)) hb); clear HO_9; clear HO_11; clear HO_15; clear BK278; clear HB; have HO_9 := n0_; have HO_11 := n1_; have HO_15 := n2_; have BK278 := n3_; have HB := n4_; clear n0_ n1_ n2_ n3_ n4_; (try clear hb); (try clear hb2); (try clear hk); (try clear hi)))
         go_ret
         exact ⟨by first | rfl | (simp [errW_none, errW_some] <;> rfl) | (simp [*, errW_none, errW_some] <;> rfl), by repeat (first | (with_reducible first | exact HB.out | apply below_alloc | apply pw_below_drewN | apply below_drew1 | refine below_set ?_ GE278.out) | exact HB.out)⟩
        ·rw [if_neg c93] at H
         have c93b0 : decide ((wrap64 (256 - (wrap64 (a2)))) < (wrap64 (1 + (Int.tmod (wrap64 (a3)) 24)))) = false := decide_eq_false c93
         clear c93
         obtain rfl := Option.some.inj H
         have hcz97_0 : wr.cell? ⟨gb278, 0, none⟩ = some (.int .i64 (wrap64 (a2))) := (blk_cell BK278.out 0).trans rfl
         have hcz97_1 : wr.cell? ⟨gb278, 1, none⟩ = some (.int .i64 (wrap64 (1 + (Int.tmod (wrap64 (a3)) 24)))) := (blk_cell BK278.out 1).trans rfl
         have hfz97_0 := blk_frozen BK278.out 0
         have hfz97_1 := blk_frozen BK278.out 1
         go_wp2
         go_ret
         exact ⟨by first | rfl | (simp [errW_none, errW_some] <;> rfl) | (simp [*, errW_none, errW_some] <;> rfl), by repeat (first | (with_reducible first | exact HB.out | apply below_alloc | apply pw_below_drewN | apply below_drew1 | refine below_set ?_ GE278.out) | exact HB.out)⟩
       ·rw [if_neg c92] at H
        have c92b0 : (t282 == 1) = false := beq_eq_false_iff_ne.mpr c92
        have c92b1 : (t282 != 1) = true := bne_iff_ne.mpr c92
        obtain rfl := Option.some.inj H
        go_wp2
        go_ret
        exact ⟨by first | rfl | (simp [errW_none, errW_some] <;> rfl) | (simp [*, errW_none, errW_some] <;> rfl), by repeat (first | (with_reducible first | exact HB.out | apply below_alloc | apply pw_below_drewN | apply below_drew1 | refine below_set ?_ GE278.out) | exact HB.out)⟩
    ·rw [if_neg c85] at H
     have c85b0 : (t275 == 0) = false := beq_eq_false_iff_ne.mpr c85
     have c85b1 : (t275 != 0) = true := bne_iff_ne.mpr c85
     by_cases c98 : t275 = 3
     ·rw [if_pos c98] at H
      have c98b0 : (t275 == 3) = true := beq_iff_eq.mpr c98
      have c98b1 : (t275 != 3) = false := bne_eq_false_iff_eq.mpr c98
      clear c98
      by_cases c99 : t282 = 0
      ·rw [if_pos c99] at H
       have c99b0 : (t282 == 0) = true := beq_iff_eq.mpr c99
       have c99b1 : (t282 != 0) = false := bne_eq_false_iff_eq.mpr c99
       clear c99
       replace H := Option.bind_eq_some_iff.mp H
       obtain ⟨t286, A1000, H⟩ := H
       replace H : (some t286) = some r := H
       have A100 := Aside0.mk A1000
       clear A1000
       obtain rfl := Option.some.inj H
       go_wp2_with (first | (go_at_call 16; (with_reducible refine (rickyardlaw5_awake.calls k1  t286 _ A100.out).mono ?_); rintro e w101 ⟨rfl, hb⟩; have n0_ := Aside0.mk (Kd.R_below (by (with_reducible repeat (first | apply Kd.R_alloc | apply Kd.R_drewN | apply Kd.R_drew)); exact HO_9.out) hb); have n1_ := Aside0.mk (Kd.R_below (by (with_reducible repeat (first | apply Kd.R_alloc | apply Kd.R_drewN | apply Kd.R_drew)); exact HO_11.out) hb); have n2_ := Aside0.mk (Kd.R_below (by (with_reducible repeat (first | apply Kd.R_alloc | apply Kd.R_drewN | apply Kd.R_drew)); exact HO_15.out) hb); have n3_ := Aside0.mk (blk_below (g := gb278) (o := .cells #[.int .i64 (wrap64 (a2)), .int .i64 (wrap64 (1 + (Int.tmod (wrap64 (a3)) 24)))] 32 (0, 0)) (by (with_reducible repeat (first | refine blk_drewN ?_ _ | refine blk_drew ?_ | refine blk_alloc ?_ _)); exact BK278.out) hb); have n4_ := Aside0.mk (below_step (by repeat (first | (with_reducible first | exact HB.out | apply below_alloc | apply pw_below_drewN | apply below_drew1 | refine below_set ?_ GE278.out) | exact HB.out)) hb); clear HO_9; clear HO_11; clear HO_15; clear BK278; clear HB; have HO_9 := n0_; have HO_11 := n1_; have HO_15 := n2_; have BK278 := n3_; have HB := n4_; clear n0_ n1_ n2_ n3_ n4_; (try clear hb); (try clear hb2); (try clear hk); (try clear hi)))
       go_ret
       exact ⟨by first | rfl | (simp [errW_none, errW_some] <;> rfl) | (simp [*, errW_none, errW_some] <;> rfl), by repeat (first | (with_reducible first | exact HB.out | apply below_alloc | apply pw_below_drewN | apply below_drew1 | refine below_set ?_ GE278.out) | exact HB.out)⟩
      ·rw [if_neg c99] at H
       have c99b0 : (t282 == 0) = false := beq_eq_false_iff_ne.mpr c99
       have c99b1 : (t282 != 0) = true := bne_iff_ne.mpr c99
       by_cases c102 : t282 = 4
       ·rw [if_pos c102] at H
        have c102b0 : (t282 == 4) = true := beq_iff_eq.mpr c102
        have c102b1 : (t282 != 4) = false := bne_eq_false_iff_eq.mpr c102
        clear c102
        replace H := Option.bind_eq_some_iff.mp H
        obtain ⟨t287, A1030, H⟩ := H
        replace H : (some t287) = some r := H
        have A103 := Aside0.mk A1030
        clear A1030
        obtain rfl := Option.some.inj H
        go_wp2_with (first | (go_at_call 16; (with_reducible refine (rickyardlaw5_awake.calls k1  t287 _ A103.out).mono ?_); rintro e w104 ⟨rfl, hb⟩; have n0_ := Aside0.mk (Kd.R_below (by (with_reducible repeat (first | apply Kd.R_alloc | apply Kd.R_drewN | apply Kd.R_drew)); exact HO_9.out) hb); have n1_ := Aside0.mk (Kd.R_below (by (with_reducible repeat (first | apply Kd.R_alloc | apply Kd.R_drewN | apply Kd.R_drew)); exact HO_11.out) hb); have n2_ := Aside0.mk (Kd.R_below (by (with_reducible repeat (first | apply Kd.R_alloc | apply Kd.R_drewN | apply Kd.R_drew)); exact HO_15.out) hb); have n3_ := Aside0.mk (blk_below (g := gb278) (o := .cells #[.int .i64 (wrap64 (a2)), .int .i64 (wrap64 (1 + (Int.tmod (wrap64 (a3)) 24)))] 32 (0, 0)) (by (with_reducible repeat (first | refine blk_drewN ?_ _ | refine blk_drew ?_ | refine blk_alloc ?_ _)); exact BK278.out) hb); have n4_ := Aside0.mk (below_step (by repeat (first | (with_reducible first | exact HB.out | apply below_alloc | apply pw_below_drewN | apply below_drew1 | refine below_set ?_ GE278.out) | exact HB.out)) hb); clear HO_9; clear HO_11; clear HO_15; clear BK278; clear HB; have HO_9 := n0_; have HO_11 := n1_; have HO_15 := n2_; have BK278 := n3_; have HB := n4_; clear n0_ n1_ n2_ n3_ n4_; (try clear hb); (try clear hb2); (try clear hk); (try clear hi)))
        go_ret
        exact ⟨by first | rfl | (simp [errW_none, errW_some] <;> rfl) | (simp [*, errW_none, errW_some] <;> rfl), by repeat (first | (with_reducible first | exact HB.out | apply below_alloc | apply pw_below_drewN | apply below_drew1 | refine below_set ?_ GE278.out) | exact HB.out)⟩
       ·rw [if_neg c102] at H
        have c102b0 : (t282 == 4) = false := beq_eq_false_iff_ne.mpr c102
        have c102b1 : (t282 != 4) = true := bne_iff_ne.mpr c102
        by_cases c105 : t282 = 1
        ·rw [if_pos c105] at H
         have c105b0 : (t282 == 1) = true := beq_iff_eq.mpr c105
         have c105b1 : (t282 != 1) = false := bne_eq_false_iff_eq.mpr c105
         clear c105
         by_cases c106 : (wrap64 (1 + (Int.tmod (wrap64 (a3)) 24))) > (wrap64 (256 - (wrap64 (a2))))
         ·rw [if_pos c106] at H
          have c106b0 : decide ((wrap64 (256 - (wrap64 (a2)))) < (wrap64 (1 + (Int.tmod (wrap64 (a3)) 24)))) = true := decide_eq_true c106
          clear c106
          replace H := Option.bind_eq_some_iff.mp H
          obtain ⟨t288, A1070, H⟩ := H
          replace H : (some t288) = some r := H
          have A107 := Aside0.mk A1070
          clear A1070
          obtain rfl := Option.some.inj H
          have hcz108_0 : wr.cell? ⟨gb278, 0, none⟩ = some (.int .i64 (wrap64 (a2))) := (blk_cell BK278.out 0).trans rfl
          have hcz108_1 : wr.cell? ⟨gb278, 1, none⟩ = some (.int .i64 (wrap64 (1 + (Int.tmod (wrap64 (a3)) 24)))) := (blk_cell BK278.out 1).trans rfl
          have hfz108_0 := blk_frozen BK278.out 0
          have hfz108_1 := blk_frozen BK278.out 1
          go_wp2_with (first | (go_at_call 16; (with_reducible refine (rickyardlaw5_awake.calls k1  t288 _ A107.out).mono ?_); rintro e w109 ⟨rfl, hb⟩; have n0_ := Aside0.mk (Kd.R_below (by (with_reducible repeat (first | apply Kd.R_alloc | apply Kd.R_drewN | apply Kd.R_drew)); exact HO_9.out) hb); have n1_ := Aside0.mk (Kd.R_below (by (with_reducible repeat (first | apply Kd.R_alloc | apply Kd.R_drewN | apply Kd.R_drew)); exact HO_11.out) hb); have n2_ := Aside0.mk (Kd.R_below (by (with_reducible repeat (first | apply Kd.R_alloc | apply Kd.R_drewN | apply Kd.R_drew)); exact HO_15.out) hb); have n3_ := Aside0.mk (blk_below (g := gb278) (o := .cells #[.int .i64 (wrap64 (a2)), .int .i64 (wrap64 (1 + (Int.tmod (wrap64 (a3)) 24)))] 32 (0, 0)) (by (with_reducible repeat (first | refine blk_drewN ?_ _ | refine blk_drew ?_ | refine blk_alloc ?_ _)); exact BK278.out) hb); have n4_ := Aside0.mk (below_step (by repeat (first | (with_reducible first | exact HB.out | apply below_alloc | apply pw_below_drewN | apply below_drew1 | refine below_set ?_ GE278.out) | exact HB.out)) hb); clear HO_9; clear HO_11; clear HO_15; clear BK278; clear HB; have HO_9 := n0_; have HO_11 := n1_; have HO_15 := n2_; have BK278 := n3_; have HB := n4_; clear n0_ n1_ n2_ n3_ n4_; (try clear hb); (try clear hb2); (try clear hk); (try clear hi)))
          go_ret
          exact ⟨by first | rfl | (simp [errW_none, errW_some] <;> rfl) | (simp [*, errW_none, errW_some] <;> rfl), by repeat (first | (with_reducible first | exact HB.out | apply below_alloc | apply pw_below_drewN | apply below_drew1 | refine below_set ?_ GE278.out) | exact HB.out)⟩
         ·rw [if_neg c106] at H
          have c106b0 : decide ((wrap64 (256 - (wrap64 (a2)))) < (wrap64 (1 + (Int.tmod (wrap64 (a3)) 24)))) = false := decide_eq_false c106
          clear c106
          obtain rfl := Option.some.inj H
          have hcz110_0 : wr.cell? ⟨gb278, 0, none⟩ = some (.int .i64 (wrap64 (a2))) := (blk_cell BK278.out 0).trans rfl
          have hcz110_1 : wr.cell? ⟨gb278, 1, none⟩ = some (.int .i64 (wrap64 (1 + (Int.tmod (wrap64 (a3)) 24)))) := (blk_cell BK278.out 1).trans rfl
          have hfz110_0 := blk_frozen BK278.out 0
          have hfz110_1 := blk_frozen BK278.out 1
          go_wp2
          go_ret
          exact ⟨by first | rfl | (simp [errW_none, errW_some] <;> rfl) | (simp [*, errW_none, errW_some] <;> rfl), by repeat (first | (with_reducible first | exact HB.out | apply below_alloc | apply pw_below_drewN | apply below_drew1 | refine below_set ?_ GE278.out) | exact HB.out)⟩
        ·rw [if_neg c105] at H
         have c105b0 : (t282 == 1) = false := beq_eq_false_iff_ne.mpr c105
         have c105b1 : (t282 != 1) = true := bne_iff_ne.mpr c105
         obtain rfl := Option.some.inj H
         go_wp2
         go_ret
         exact ⟨by first | rfl | (simp [errW_none, errW_some] <;> rfl) | (simp [*, errW_none, errW_some] <;> rfl), by repeat (first | (with_reducible first | exact HB.out | apply below_alloc | apply pw_below_drewN | apply below_drew1 | refine below_set ?_ GE278.out) | exact HB.out)⟩
     ·rw [if_neg c98] at H
      have c98b0 : (t275 == 3) = false := beq_eq_false_iff_ne.mpr c98
      have c98b1 : (t275 != 3) = true := bne_iff_ne.mpr c98
      obtain rfl := Option.some.inj H
      go_wp2
      go_ret
      exact ⟨by first | rfl | (simp [errW_none, errW_some] <;> rfl) | (simp [*, errW_none, errW_some] <;> rfl), by repeat (first | (with_reducible first | exact HB.out | apply below_alloc | apply pw_below_drewN | apply below_drew1 | refine below_set ?_ GE278.out) | exact HB.out)⟩

/-- THE ONE PURE STATEMENT of rickyardlaw5_RunsPages: yours. -/
def rickyardlaw5_RunsPages.Pure : Prop := ∀ (l0 : List Int) (a1 : Int) (a2 : Int) (a3 : Int), l0.length ≤ maxLen → l0.length * 1 ≤ 140737488351232 → (∀ x ∈ l0, (Lit.int .u8 x).wf = true) → (Lit.int .u8 a1).wf = true → (Lit.int .u8 a2).wf = true → (Lit.int .u8 a3).wf = true → ∃ k, rickyardlaw5_RunsPages.f k l0 a1 a2 a3 = some true
theorem rickyardlaw5_RunsPages.walk (P : rickyardlaw5_RunsPages.Pure) (a0 : Option Addr) (len0 cap0 : Nat) (z0 : List Int) (a1 : Int) (a2 : Int) (a3 : Int) (w : World) (w0 : (a0 = none ∧ len0 = 0 ∧ cap0 = 0 ∧ z0 = []) ∨ ∃ x, a0 = some x ∧ len0 ≤ cap0 ∧ cap0 ≤ maxLen ∧ z0.length = cap0 ∧ (∀ i, i < z0.length → w.cell? (x.add i) = some (.int .u8 (z0.getD i 0))) ∧ ∀ n ∈ z0, (Lit.int .u8 n).wf = true) (y0 : len0 * 1 ≤ 140737488351232) (w1 : (Lit.int .u8 a1).wf = true) (w2 : (Lit.int .u8 a2).wf = true) (w3 : (Lit.int .u8 a3).wf = true) :
  Calls Try.prog 5 #[.slice a0 len0 cap0, .int .u8 a1, .int .u8 a2, .int .u8 a3] w fun e w' => e = .returned (.bool true) ∧ Below w.heap.size w w' := by
 obtain ⟨l0, rfl, hr0, hm0, hw0, hc0⟩ := ReadsInt.ofRowC w0
 obtain ⟨k, h⟩ := P l0 a1 a2 a3 hm0 y0 hw0 w1 w2 w3
 refine (rickyardlaw5_RunsPages.calls k _ _ l0 a1 a2 a3 true w (Kd.C_of_reads (d := (0 : Int)) (h1 := fun _ => rfl) hr0) hc0 h).mono ?_
 rintro e w' ⟨rfl, hd⟩
 exact ⟨rfl, hd⟩

end Go.Proofs.Ythbknmblehecaaa.Pr
