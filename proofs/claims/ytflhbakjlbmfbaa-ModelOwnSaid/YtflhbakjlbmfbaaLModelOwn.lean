/- ModelOwn's walk. No statement is proved here. -/
import Derived.Test.YtflhbakjlbmfbaaDeedCalls
import Derived.Test.YtflhbakjlbmfbaaModelMade
import Derived.Deep.RegionHeld3
namespace Go.Proofs.Ytflhbakjlbmfbaa
set_option linter.unusedVariables false
set_option linter.unusedSimpArgs false
open Go.RowKit Go.Proofs.YtflhbakjlbmfbaaW.PrintWords Go.Proofs.YtflhbakjlbmfbaaW.PrintLast Go.Proofs.YtflhbakjlbmfbaaW.PrintMore Pr Go.Proofs.Ytflhbakjlbmfbaa.Pure

set_option maxRecDepth 100000 in
set_option maxHeartbeats 1600000 in
theorem own_yes (w : World) (A : Option Addr) (c : Nat) (ns : List Int) (hr : Kd.C (Kd.int .u8) w A ns.length ns) (hc : ns.length ≤ c) (hw : ∀ x ∈ ns, (Lit.int .u8 x).wf = true) (hmax : ns.length ≤ 140737488351232) (l : List Lv) (k0 : Nat) (hmade : rickyardlaw13_Made.f k0 ns = some (16384, l)) (hrt : rtL 16384 l) (hl : l.length ≤ 60) (a1 : Int) (w1 : (Lit.int .u16 a1).wf = true) (a2 : Int) (w2 : (Lit.int .u16 a2).wf = true) (hp0 : 0 < l.length) :
    Calls Try.prog 11 #[.slice A ns.length c, .int .u16 a1, .int .u16 a2] w fun e w' => e = .returned (.bool true) ∧ Below w.heap.size w w' := by
  have hu := Try.underlying48
  have hu2 := Try.underlying41
  have hu3 := Try.underlying71
  have hi := Try.underlying3
  have hi2 := Try.underlying25
  have h1 := u16_of w1
  have h2 := u16_of w2
  obtain ⟨j, hj⟩ : ∃ j : Nat, (j : Int) = a2 % (l.length : Int) := ⟨(a2 % (l.length : Int)).toNat, by have := Int.emod_nonneg a2 (show (l.length : Int) ≠ 0 by omega); omega⟩
  have hjl : j < l.length := by have := Int.emod_lt_of_pos a2 (show (0 : Int) < (l.length : Int) by omega); omega
  have tj : a2.tmod (l.length : Int) = j := by rw [Int.tmod_eq_emod_of_nonneg h2.1]; exact hj.symm
  have l0_ : ¬ (l.length : Int) = 0 := by omega
  have l1_ : ¬ l.length = 0 := by omega
  have l2_ : ¬ l = [] := by intro e; rw [e] at hjl; exact absurd hjl (by simp)
  have j0_ : (0 : Int) ≤ (j : Int) := by omega
  have j1_ : (j : Int) < (l.length : Int) := by omega
  clear hj
  obtain ⟨m, hmm⟩ : ∃ m : Int, m = 16384 := ⟨_, rfl⟩
  rw [← hmm] at hmade hrt
  have hm : mOk m := by rw [hmm]; decide
  have HM := Sh.mk hm
  have HRT := Sh.mk hrt
  have t2 : a2.tmod 512 = a2 % 512 := Int.tmod_eq_emod_of_nonneg h2.1
  obtain ⟨p, hp⟩ : ∃ x, x = a2 % 512 * 32 := ⟨_, rfl⟩
  have w1_ : IntKind.i64.wrap a1 = a1 := IntWalk.i64_in _ (by omega)
  have w2_ : IntKind.i64.wrap a2 = a2 := IntWalk.i64_in _ (by omega)
  have hpp : a2 % 512 * 32 = p := hp.symm
  have wp_ : IntKind.i64.wrap (a2 % 512 * 32) = p := by rw [hp]; exact IntWalk.i64_in _ (by omega)
  have HR := Sh.mk hr
  have HC := Sh.mk hc
  have HW8 : Sh (∀ x ∈ ns, (Lit.int .u8 x).wf = true) := ⟨hw⟩
  have HMK := Sh.mk hmade
  obtain ⟨D, hD⟩ : ∃ D, D = deedsG 2048 [] ns 0 := ⟨_, rfl⟩
  have hDl : D.length ≤ 100 := by rw [hD]; exact deeds_len 2048 ns
  have HD := Sh.mk hD
  obtain ⟨xm, xl, xo, XE⟩ : ∃ xm xl xo, Sh (allocR m l a1 p = (xm, xl, xo)) := ⟨_, _, _, ⟨rfl⟩⟩
  obtain ⟨q, n, ok, QE⟩ : ∃ q n ok, Sh (accsL m l D = (q, n, ok)) := ⟨_, _, _, ⟨rfl⟩⟩
  clear hmm hm hrt hr hc hw hmade hD hp t2
  go_enter Try.func11, Try.ntmps11
  have hq := rickyardlaw13_Made.calls k0 A c ns m l (w) HR.out HC.out HMK.out
  have H1 := Sh.mk hq
  clear hq
  go_wp2_with fail
  (with_reducible refine (H1.out).mono ?_); rintro e w1 ⟨v, rfl, hv, hd⟩
  obtain ⟨A7, c7, rfl, hl7, hC7⟩ := Rd.ofR hv
  clear hv
  have B2 : Sh (Below (w).heap.size (w) (w1)) := ⟨hd⟩
  have r0C2 := Sh.mk (Kd.C_below HR.out B2.out)
  clear HR
  have HB2 : Sh (Below w.heap.size w (w1)) := B2
  clear hd
  have r7C2 : Sh (Kd.C k48 (w1) A7 l.length l) := ⟨hC7⟩
  have r7H := Sh.mk hl7
  clear hC7 hl7
  have hq := rickyardlaw13_Made.calls k0 A c ns m l (w1) r0C2.out HC.out HMK.out
  have H2 := Sh.mk hq
  clear hq
  go_wp2_with fail
  (with_reducible refine (H2.out).mono ?_); rintro e w3 ⟨v, rfl, hv, hd⟩
  obtain ⟨A8, c8, rfl, hl8, hC8⟩ := Rd.ofR hv
  clear hv
  have B4 : Sh (Below (w1).heap.size (w1) (((w3.alloc (.cells #[.int .i64 m, .slice A7 l.length c7] 41)).alloc (.cells #[.int .i64 m, .slice A8 l.length c8] 41)))) := ⟨below_alloc (below_alloc (hd) _) _⟩
  have r0C4 := Sh.mk (Kd.C_below r0C2.out B4.out)
  clear r0C2
  have r7C4 := Sh.mk (Kd.C_below r7C2.out B4.out)
  clear r7C2
  have HB4 : Sh (Below w.heap.size w (((w3.alloc (.cells #[.int .i64 m, .slice A7 l.length c7] 41)).alloc (.cells #[.int .i64 m, .slice A8 l.length c8] 41)))) := ⟨below_step HB2.out B4.out⟩
  clear HB2
  have g7_n3 : Sh ((((w3.alloc (.cells #[.int .i64 m, .slice A7 l.length c7] 41)).alloc (.cells #[.int .i64 m, .slice A8 l.length c8] 41))).heap[w3.heap.size]? = some (.cells #[.int .i64 m, .slice A7 l.length c7] 41 (0, 0))) := ⟨(blk_alloc (blk_new w3 _) _)⟩
  have g8_n3 : Sh ((((w3.alloc (.cells #[.int .i64 m, .slice A7 l.length c7] 41)).alloc (.cells #[.int .i64 m, .slice A8 l.length c8] 41))).heap[w3.heap.size + 1]? = some (.cells #[.int .i64 m, .slice A8 l.length c8] 41 (0, 0))) := ⟨(by have h := blk_new (w3.alloc (.cells #[.int .i64 m, .slice A7 l.length c7] 41)) (.cells #[.int .i64 m, .slice A8 l.length c8] 41); simpa using h)⟩
  clear hd
  have r8C4 : Sh (Kd.C k48 (((w3.alloc (.cells #[.int .i64 m, .slice A7 l.length c7] 41)).alloc (.cells #[.int .i64 m, .slice A8 l.length c8] 41))) A8 l.length l) := ⟨(Kd.C_alloc (Kd.C_alloc hC8 _) _)⟩
  have r8H := Sh.mk hl8
  clear hC8 hl8
  have q_g7_0 : (((w3.alloc (.cells #[.int .i64 m, .slice A7 l.length c7] 41)).alloc (.cells #[.int .i64 m, .slice A8 l.length c8] 41))).cell? ⟨w3.heap.size, 0, none⟩ = some (.int .i64 m) := (blk_cell g7_n3.out 0).trans rfl
  have q_g7_1 : (((w3.alloc (.cells #[.int .i64 m, .slice A7 l.length c7] 41)).alloc (.cells #[.int .i64 m, .slice A8 l.length c8] 41))).cell? ⟨w3.heap.size, 1, none⟩ = some (.slice A7 l.length c7) := (blk_cell g7_n3.out 1).trans rfl
  have q_g8_0 : (((w3.alloc (.cells #[.int .i64 m, .slice A7 l.length c7] 41)).alloc (.cells #[.int .i64 m, .slice A8 l.length c8] 41))).cell? ⟨w3.heap.size + 1, 0, none⟩ = some (.int .i64 m) := (blk_cell g8_n3.out 0).trans rfl
  have q_g8_1 : (((w3.alloc (.cells #[.int .i64 m, .slice A7 l.length c7] 41)).alloc (.cells #[.int .i64 m, .slice A8 l.length c8] 41))).cell? ⟨w3.heap.size + 1, 1, none⟩ = some (.slice A8 l.length c8) := (blk_cell g8_n3.out 1).trans rfl
  have hq := deeds_anyR (m := 2048) (by decide) r0C4.out HC.out HW8.out hmax
  rw [← HD.out] at hq
  have HE9 := Sh.mk hq
  clear hq
  go_wp2_with fail
  (with_reducible refine (HE9.out).mono ?_); rintro e w5 ⟨A9, c9, rfl, hl9, hC9, hd⟩
  clear q_g7_0 q_g7_1 q_g8_0 q_g8_1
  have B6 : Sh (Below (((w3.alloc (.cells #[.int .i64 m, .slice A7 l.length c7] 41)).alloc (.cells #[.int .i64 m, .slice A8 l.length c8] 41))).heap.size (((w3.alloc (.cells #[.int .i64 m, .slice A7 l.length c7] 41)).alloc (.cells #[.int .i64 m, .slice A8 l.length c8] 41))) (w5)) := ⟨hd⟩
  have g7_6 := Sh.mk (blk_below g7_n3.out B6.out)
  clear g7_n3
  have g8_6 := Sh.mk (blk_below g8_n3.out B6.out)
  clear g8_n3
  have r0C6 := Sh.mk (Kd.C_below r0C4.out B6.out)
  clear r0C4
  have r7C6 := Sh.mk (Kd.C_below r7C4.out B6.out)
  clear r7C4
  have r8C6 := Sh.mk (Kd.C_below r8C4.out B6.out)
  clear r8C4
  have HB6 : Sh (Below w.heap.size w (w5)) := ⟨below_step HB4.out B6.out⟩
  clear HB4
  clear hd
  have r9C6 : Sh (Kd.C k71 (w5) A9 D.length D) := ⟨hC9⟩
  have r9H := Sh.mk hl9
  clear hC9 hl9
  have q_g7_0 : (w5).cell? ⟨w3.heap.size, 0, none⟩ = some (.int .i64 m) := (blk_cell g7_6.out 0).trans rfl
  have q_g7_1 : (w5).cell? ⟨w3.heap.size, 1, none⟩ = some (.slice A7 l.length c7) := (blk_cell g7_6.out 1).trans rfl
  have q_g8_0 : (w5).cell? ⟨w3.heap.size + 1, 0, none⟩ = some (.int .i64 m) := (blk_cell g8_6.out 0).trans rfl
  have q_g8_1 : (w5).cell? ⟨w3.heap.size + 1, 1, none⟩ = some (.slice A8 l.length c8) := (blk_cell g8_6.out 1).trans rfl
  have hq := deeds_anyR (m := 2048) (by decide) r0C6.out HC.out HW8.out hmax
  rw [← HD.out] at hq
  have HE10 := Sh.mk hq
  clear hq
  go_wp2_with fail
  (with_reducible refine (HE10.out).mono ?_); rintro e w7 ⟨A10, c10, rfl, hl10, hC10, hd⟩
  clear q_g7_0 q_g7_1 q_g8_0 q_g8_1
  have B8 : Sh (Below (w5).heap.size (w5) (w7)) := ⟨hd⟩
  have g7_8 := Sh.mk (blk_below g7_6.out B8.out)
  clear g7_6
  have g8_8 := Sh.mk (blk_below g8_6.out B8.out)
  clear g8_6
  have r0C8 := Sh.mk (Kd.C_below r0C6.out B8.out)
  clear r0C6
  have r7C8 := Sh.mk (Kd.C_below r7C6.out B8.out)
  clear r7C6
  have r8C8 := Sh.mk (Kd.C_below r8C6.out B8.out)
  clear r8C6
  have r9C8 := Sh.mk (Kd.C_below r9C6.out B8.out)
  clear r9C6
  have HB8 : Sh (Below w.heap.size w (w7)) := ⟨below_step HB6.out B8.out⟩
  clear HB6
  clear hd
  have r10C8 : Sh (Kd.C k71 (w7) A10 D.length D) := ⟨hC10⟩
  have r10H := Sh.mk hl10
  clear hC10 hl10
  have q_g7_0 : (w7).cell? ⟨w3.heap.size, 0, none⟩ = some (.int .i64 m) := (blk_cell g7_8.out 0).trans rfl
  have q_g7_1 : (w7).cell? ⟨w3.heap.size, 1, none⟩ = some (.slice A7 l.length c7) := (blk_cell g7_8.out 1).trans rfl
  have q_g8_0 : (w7).cell? ⟨w3.heap.size + 1, 0, none⟩ = some (.int .i64 m) := (blk_cell g8_8.out 0).trans rfl
  have q_g8_1 : (w7).cell? ⟨w3.heap.size + 1, 1, none⟩ = some (.slice A8 l.length c8) := (blk_cell g8_8.out 1).trans rfl
  have hq := alloc_any HM.out HRT.out (by omega) ⟨A7, c7, rfl, r7H.out, r7C8.out⟩ a1 p
  rw [XE.out] at hq
  have HA := Sh.mk hq
  clear hq
  go_wp2_with fail
  (with_reducible refine (HA.out).mono ?_); rintro e w9 ⟨u, rfl, hu_, hd⟩
  clear q_g7_0 q_g7_1 q_g8_0 q_g8_1
  have B10 : Sh (Below (w7).heap.size (w7) (w9)) := ⟨hd⟩
  have g7_10 := Sh.mk (blk_below g7_8.out B10.out)
  clear g7_8
  have g8_10 := Sh.mk (blk_below g8_8.out B10.out)
  clear g8_8
  have r0C10 := Sh.mk (Kd.C_below r0C8.out B10.out)
  clear r0C8
  have r7C10 := Sh.mk (Kd.C_below r7C8.out B10.out)
  clear r7C8
  have r8C10 := Sh.mk (Kd.C_below r8C8.out B10.out)
  clear r8C8
  have r9C10 := Sh.mk (Kd.C_below r9C8.out B10.out)
  clear r9C8
  have r10C10 := Sh.mk (Kd.C_below r10C8.out B10.out)
  clear r10C8
  have HB10 : Sh (Below w.heap.size w (w9)) := ⟨below_step HB8.out B10.out⟩
  clear HB8
  clear hd
  clear hu_
  have q_g7_0 : (w9).cell? ⟨w3.heap.size, 0, none⟩ = some (.int .i64 m) := (blk_cell g7_10.out 0).trans rfl
  have q_g7_1 : (w9).cell? ⟨w3.heap.size, 1, none⟩ = some (.slice A7 l.length c7) := (blk_cell g7_10.out 1).trans rfl
  have q_g8_0 : (w9).cell? ⟨w3.heap.size + 1, 0, none⟩ = some (.int .i64 m) := (blk_cell g8_10.out 0).trans rfl
  have q_g8_1 : (w9).cell? ⟨w3.heap.size + 1, 1, none⟩ = some (.slice A8 l.length c8) := (blk_cell g8_10.out 1).trans rfl
  obtain ⟨ad7, rfl, e_x_0, e_x_1, e_x_2⟩ := at_T48 r7C10.out (j : Int) (by omega) (by omega)
  obtain ⟨x, hx⟩ : ∃ y, y = rd_T48 l (j : Int) := ⟨_, rfl⟩
  rw [← hx] at e_x_0 e_x_1 e_x_2
  rw [Int.toNat_natCast] at e_x_0 e_x_1 e_x_2
  have HX_x := Sh.mk hx
  clear hx
  clear q_g7_0 q_g7_1 q_g8_0 q_g8_1
  have q_g7_0 : (w9).cell? ⟨w3.heap.size, 0, none⟩ = some (.int .i64 m) := (blk_cell g7_10.out 0).trans rfl
  have q_g7_1 : (w9).cell? ⟨w3.heap.size, 1, none⟩ = some (.slice (some ad7) l.length c7) := (blk_cell g7_10.out 1).trans rfl
  have q_g8_0 : (w9).cell? ⟨w3.heap.size + 1, 0, none⟩ = some (.int .i64 m) := (blk_cell g8_10.out 0).trans rfl
  have q_g8_1 : (w9).cell? ⟨w3.heap.size + 1, 1, none⟩ = some (.slice A8 l.length c8) := (blk_cell g8_10.out 1).trans rfl
  have hq := fun W (hW : Below (w9).heap.size (w9) W) => (free_any (m := m) HRT.out (by omega) (w := W) ⟨(some ad7), c7, rfl, r7H.out, Kd.C_below r7C10.out hW⟩ x.f0)
  have HG := Sh.mk hq
  clear hq
  have he1 := e_x_0
  go_upto_region 5 with fail
  have ed : Sh ((w9).drew.cell? (ad7.add (j * 3)) = some (.int .i64 x.f0)) := ⟨((Below.refl _ _).drew.cell (World.block_lt_of_cell? _ _ e_x_0)).trans e_x_0⟩
  go_region_held3 (fun W => W.cell? ⟨w3.heap.size, 0, none⟩ = some (.int .i64 m) ∧ W.cell? ⟨w3.heap.size, 1, none⟩ = some (.slice (some ad7) l.length c7) ∧ W.cell? (ad7.add (j * 3)) = some (.int .i64 x.f0)) (first | exact ⟨(blk_cell (blk_drew g7_10.out) 0).trans rfl, (blk_cell (blk_drew g7_10.out) 1).trans rfl, ((Below.refl _ _).drew.cell (World.block_lt_of_cell? _ _ e_x_0)).trans e_x_0⟩ | exact ⟨(blk_cell g7_10.out 0).trans rfl, (blk_cell g7_10.out 1).trans rfl, e_x_0⟩ | exact ⟨(blk_cell (blk_below (blk_drew g7_10.out) ha) 0).trans rfl, (blk_cell (blk_below (blk_drew g7_10.out) ha) 1).trans rfl, (ha.cell (World.block_lt_of_cell? _ _ ed.out)).trans ed.out⟩) (first | (go_at_call 25; (with_reducible refine (HG.out _ (Below.refl _ _).drew).mono ?_); rintro e wa ⟨u2, rfl, hu2_, ha⟩; clear hu2_))
  have HE := Sh.mk e_x_0
  clear e_x_0
  have B11 : Sh (Below (w9).heap.size (w9) (wa)) := ⟨(below_step (Below.refl _ _).drew ha)⟩
  have g7_11 := Sh.mk (blk_below g7_10.out B11.out)
  clear g7_10
  have g8_11 := Sh.mk (blk_below g8_10.out B11.out)
  clear g8_10
  have r0C11 := Sh.mk (Kd.C_below r0C10.out B11.out)
  clear r0C10
  have r7C11 := Sh.mk (Kd.C_below r7C10.out B11.out)
  clear r7C10
  have r8C11 := Sh.mk (Kd.C_below r8C10.out B11.out)
  clear r8C10
  have r9C11 := Sh.mk (Kd.C_below r9C10.out B11.out)
  clear r9C10
  have r10C11 := Sh.mk (Kd.C_below r10C10.out B11.out)
  clear r10C10
  have HB11 : Sh (Below w.heap.size w (wa)) := ⟨below_step HB10.out B11.out⟩
  clear HB10
  clear ha
  clear q_g7_0 q_g7_1 q_g8_0 q_g8_1
  have q_g7_0 : (wa).cell? ⟨w3.heap.size, 0, none⟩ = some (.int .i64 m) := (blk_cell g7_11.out 0).trans rfl
  have q_g7_1 : (wa).cell? ⟨w3.heap.size, 1, none⟩ = some (.slice (some ad7) l.length c7) := (blk_cell g7_11.out 1).trans rfl
  have q_g8_0 : (wa).cell? ⟨w3.heap.size + 1, 0, none⟩ = some (.int .i64 m) := (blk_cell g8_11.out 0).trans rfl
  have q_g8_1 : (wa).cell? ⟨w3.heap.size + 1, 1, none⟩ = some (.slice A8 l.length c8) := (blk_cell g8_11.out 1).trans rfl
  have hq := accepts_anyR HM.out HRT.out (by omega) ⟨(some ad7), c7, rfl, r7H.out, r7C11.out⟩ r9C11.out r9H.out
  rw [QE.out] at hq
  have HAC := Sh.mk hq
  clear hq
  go_wp2_with fail
  (with_reducible refine (HAC.out).mono ?_); rintro e w12 ⟨u3, rfl, hu3_, hd⟩
  clear q_g7_0 q_g7_1 q_g8_0 q_g8_1
  have B13 : Sh (Below (wa).heap.size (wa) (w12)) := ⟨hd⟩
  have g7_13 := Sh.mk (blk_below g7_11.out B13.out)
  clear g7_11
  have g8_13 := Sh.mk (blk_below g8_11.out B13.out)
  clear g8_11
  have r0C13 := Sh.mk (Kd.C_below r0C11.out B13.out)
  clear r0C11
  have r7C13 := Sh.mk (Kd.C_below r7C11.out B13.out)
  clear r7C11
  have r8C13 := Sh.mk (Kd.C_below r8C11.out B13.out)
  clear r8C11
  have r9C13 := Sh.mk (Kd.C_below r9C11.out B13.out)
  clear r9C11
  have r10C13 := Sh.mk (Kd.C_below r10C11.out B13.out)
  clear r10C11
  have HB13 : Sh (Below w.heap.size w (w12)) := ⟨below_step HB11.out B13.out⟩
  clear HB11
  clear hd
  clear hu3_
  have q_g7_0 : (w12).cell? ⟨w3.heap.size, 0, none⟩ = some (.int .i64 m) := (blk_cell g7_13.out 0).trans rfl
  have q_g7_1 : (w12).cell? ⟨w3.heap.size, 1, none⟩ = some (.slice (some ad7) l.length c7) := (blk_cell g7_13.out 1).trans rfl
  have q_g8_0 : (w12).cell? ⟨w3.heap.size + 1, 0, none⟩ = some (.int .i64 m) := (blk_cell g8_13.out 0).trans rfl
  have q_g8_1 : (w12).cell? ⟨w3.heap.size + 1, 1, none⟩ = some (.slice A8 l.length c8) := (blk_cell g8_13.out 1).trans rfl
  go_wp2
  go_loopw [11] (fun vi wr => ∃ i : Nat, i ≤ D.length ∧ vi = .int .i64 i ∧ Sh (Below w12.heap.size w12 wr)) (fun vi _ => D.length - (intOf vi).toNat)
  case atStart => exact ⟨0, Nat.zero_le _, rfl, ⟨Below.refl _ _⟩⟩
  case round =>
    clear q_g7_0 q_g7_1 q_g8_0 q_g8_1
    obtain ⟨i, hi_, rfl, HWR⟩ := hrel
    have B14 : Sh (Below (w12).heap.size (w12) (wr)) := ⟨HWR.out⟩
    have g7_14 := Sh.mk (blk_below g7_13.out B14.out)
    clear g7_13
    have g8_14 := Sh.mk (blk_below g8_13.out B14.out)
    clear g8_13
    have r0C14 := Sh.mk (Kd.C_below r0C13.out B14.out)
    clear r0C13
    have r7C14 := Sh.mk (Kd.C_below r7C13.out B14.out)
    clear r7C13
    have r8C14 := Sh.mk (Kd.C_below r8C13.out B14.out)
    clear r8C13
    have r9C14 := Sh.mk (Kd.C_below r9C13.out B14.out)
    clear r9C13
    have r10C14 := Sh.mk (Kd.C_below r10C13.out B14.out)
    clear r10C13
    have HB14 : Sh (Below w.heap.size w (wr)) := ⟨below_step HB13.out B14.out⟩
    clear HB13
    have q_g7_0 : (wr).cell? ⟨w3.heap.size, 0, none⟩ = some (.int .i64 m) := (blk_cell g7_14.out 0).trans rfl
    have q_g7_1 : (wr).cell? ⟨w3.heap.size, 1, none⟩ = some (.slice (some ad7) l.length c7) := (blk_cell g7_14.out 1).trans rfl
    have q_g8_0 : (wr).cell? ⟨w3.heap.size + 1, 0, none⟩ = some (.int .i64 m) := (blk_cell g8_14.out 0).trans rfl
    have q_g8_1 : (wr).cell? ⟨w3.heap.size + 1, 1, none⟩ = some (.slice A8 l.length c8) := (blk_cell g8_14.out 1).trans rfl
    by_cases hlt : i < D.length
    · obtain ⟨ad9, rfl, e_d_0, e_d_1, e_d_2, e_d_3⟩ := at_T71 r9C14.out (i : Int) (by omega) (by omega)
      obtain ⟨d, hd⟩ : ∃ y, y = rd_T71 D (i : Int) := ⟨_, rfl⟩
      rw [← hd] at e_d_0 e_d_1 e_d_2 e_d_3
      rw [Int.toNat_natCast] at e_d_0 e_d_1 e_d_2 e_d_3
      have HX_d := Sh.mk hd
      clear hd
      obtain ⟨ad10, rfl, e_e_0, e_e_1, e_e_2, e_e_3⟩ := at_T71 r10C14.out (i : Int) (by omega) (by omega)
      obtain ⟨e, he⟩ : ∃ y, y = rd_T71 D (i : Int) := ⟨_, rfl⟩
      rw [← he] at e_e_0 e_e_1 e_e_2 e_e_3
      rw [Int.toNat_natCast] at e_e_0 e_e_1 e_e_2 e_e_3
      have HX_e := Sh.mk he
      clear he
      obtain rfl : e = d := by rw [HX_e.out, HX_d.out]
      go_wp2
      go_quiet (fail)
      go_wp2
      go_roundw
      case rel => exact ⟨i + 1, by omega, by go_num, ⟨pw_below_drewN HWR.out _⟩⟩
      case measure => simp [intOf]; omega
    · obtain rfl : i = D.length := by omega
      have hq := samem_any (m := m) (by omega) ⟨(some ad7), c7, rfl, r7H.out, r7C14.out⟩ ⟨A8, c8, rfl, r8H.out, r8C14.out⟩
      have HS := Sh.mk hq
      clear hq
      go_wp2_with fail
      (with_reducible refine (HS.out).mono ?_); rintro e w15 ⟨rfl, hd⟩
      clear q_g7_0 q_g7_1 q_g8_0 q_g8_1
      have B16 : Sh (Below (wr).heap.size (wr) (w15)) := ⟨hd⟩
      have g7_16 := Sh.mk (blk_below g7_14.out B16.out)
      clear g7_14
      have g8_16 := Sh.mk (blk_below g8_14.out B16.out)
      clear g8_14
      have r0C16 := Sh.mk (Kd.C_below r0C14.out B16.out)
      clear r0C14
      have r7C16 := Sh.mk (Kd.C_below r7C14.out B16.out)
      clear r7C14
      have r8C16 := Sh.mk (Kd.C_below r8C14.out B16.out)
      clear r8C14
      have r9C16 := Sh.mk (Kd.C_below r9C14.out B16.out)
      clear r9C14
      have r10C16 := Sh.mk (Kd.C_below r10C14.out B16.out)
      clear r10C14
      have HB16 : Sh (Below w.heap.size w (w15)) := ⟨below_step HB14.out B16.out⟩
      clear HB14
      clear hd
      have q_g7_0 : (w15).cell? ⟨w3.heap.size, 0, none⟩ = some (.int .i64 m) := (blk_cell g7_16.out 0).trans rfl
      have q_g7_1 : (w15).cell? ⟨w3.heap.size, 1, none⟩ = some (.slice (some ad7) l.length c7) := (blk_cell g7_16.out 1).trans rfl
      have q_g8_0 : (w15).cell? ⟨w3.heap.size + 1, 0, none⟩ = some (.int .i64 m) := (blk_cell g8_16.out 0).trans rfl
      have q_g8_1 : (w15).cell? ⟨w3.heap.size + 1, 1, none⟩ = some (.slice A8 l.length c8) := (blk_cell g8_16.out 1).trans rfl
      have HW := Sh.mk (awake_any (w15))
      go_wp2_with fail
      (with_reducible refine (HW.out).mono ?_); rintro e w17 ⟨rfl, hd⟩
      clear q_g7_0 q_g7_1 q_g8_0 q_g8_1
      have B18 : Sh (Below (w15).heap.size (w15) (w17)) := ⟨hd⟩
      have g7_18 := Sh.mk (blk_below g7_16.out B18.out)
      clear g7_16
      have g8_18 := Sh.mk (blk_below g8_16.out B18.out)
      clear g8_16
      have r0C18 := Sh.mk (Kd.C_below r0C16.out B18.out)
      clear r0C16
      have r7C18 := Sh.mk (Kd.C_below r7C16.out B18.out)
      clear r7C16
      have r8C18 := Sh.mk (Kd.C_below r8C16.out B18.out)
      clear r8C16
      have r9C18 := Sh.mk (Kd.C_below r9C16.out B18.out)
      clear r9C16
      have r10C18 := Sh.mk (Kd.C_below r10C16.out B18.out)
      clear r10C16
      have HB18 : Sh (Below w.heap.size w (w17)) := ⟨below_step HB16.out B18.out⟩
      clear HB16
      clear hd
      go_wp2
      refine bodyPost_ret (v := .bool true) (by simp [results, Try.results11, go_sem]) rfl ?_
      exact ⟨rfl, HB18.out⟩
set_option maxRecDepth 100000 in
set_option maxHeartbeats 1600000 in
theorem own_no (w : World) (A : Option Addr) (c : Nat) (ns : List Int) (hr : Kd.C (Kd.int .u8) w A ns.length ns) (hc : ns.length ≤ c) (hw : ∀ x ∈ ns, (Lit.int .u8 x).wf = true) (hmax : ns.length ≤ 140737488351232) (l : List Lv) (k0 : Nat) (hmade : rickyardlaw13_Made.f k0 ns = some (16384, l)) (hrt : rtL 16384 l) (hl : l.length ≤ 60) (a1 : Int) (w1 : (Lit.int .u16 a1).wf = true) (a2 : Int) (w2 : (Lit.int .u16 a2).wf = true) (hp0 : ¬ 0 < l.length) :
    Calls Try.prog 11 #[.slice A ns.length c, .int .u16 a1, .int .u16 a2] w fun e w' => e = .returned (.bool true) ∧ Below w.heap.size w w' := by
  have hu := Try.underlying48
  have hu2 := Try.underlying41
  have hu3 := Try.underlying71
  have hi := Try.underlying3
  have hi2 := Try.underlying25
  have h1 := u16_of w1
  have h2 := u16_of w2
  obtain ⟨m, hmm⟩ : ∃ m : Int, m = 16384 := ⟨_, rfl⟩
  rw [← hmm] at hmade hrt
  have hm : mOk m := by rw [hmm]; decide
  have HM := Sh.mk hm
  have HRT := Sh.mk hrt
  have t2 : a2.tmod 512 = a2 % 512 := Int.tmod_eq_emod_of_nonneg h2.1
  obtain ⟨p, hp⟩ : ∃ x, x = a2 % 512 * 32 := ⟨_, rfl⟩
  have w1_ : IntKind.i64.wrap a1 = a1 := IntWalk.i64_in _ (by omega)
  have w2_ : IntKind.i64.wrap a2 = a2 := IntWalk.i64_in _ (by omega)
  have hpp : a2 % 512 * 32 = p := hp.symm
  have wp_ : IntKind.i64.wrap (a2 % 512 * 32) = p := by rw [hp]; exact IntWalk.i64_in _ (by omega)
  have HR := Sh.mk hr
  have HC := Sh.mk hc
  have HW8 : Sh (∀ x ∈ ns, (Lit.int .u8 x).wf = true) := ⟨hw⟩
  have HMK := Sh.mk hmade
  obtain ⟨D, hD⟩ : ∃ D, D = deedsG 2048 [] ns 0 := ⟨_, rfl⟩
  have hDl : D.length ≤ 100 := by rw [hD]; exact deeds_len 2048 ns
  have HD := Sh.mk hD
  obtain ⟨xm, xl, xo, XE⟩ : ∃ xm xl xo, Sh (allocR m l a1 p = (xm, xl, xo)) := ⟨_, _, _, ⟨rfl⟩⟩
  obtain ⟨q, n, ok, QE⟩ : ∃ q n ok, Sh (accsL m l D = (q, n, ok)) := ⟨_, _, _, ⟨rfl⟩⟩
  clear hmm hm hrt hr hc hw hmade hD hp t2
  go_enter Try.func11, Try.ntmps11
  have hq := rickyardlaw13_Made.calls k0 A c ns m l (w) HR.out HC.out HMK.out
  have H1 := Sh.mk hq
  clear hq
  go_wp2_with fail
  (with_reducible refine (H1.out).mono ?_); rintro e w1 ⟨v, rfl, hv, hd⟩
  obtain ⟨A7, c7, rfl, hl7, hC7⟩ := Rd.ofR hv
  clear hv
  have B2 : Sh (Below (w).heap.size (w) (w1)) := ⟨hd⟩
  have r0C2 := Sh.mk (Kd.C_below HR.out B2.out)
  clear HR
  have HB2 : Sh (Below w.heap.size w (w1)) := B2
  clear hd
  have r7C2 : Sh (Kd.C k48 (w1) A7 l.length l) := ⟨hC7⟩
  have r7H := Sh.mk hl7
  clear hC7 hl7
  have hq := rickyardlaw13_Made.calls k0 A c ns m l (w1) r0C2.out HC.out HMK.out
  have H2 := Sh.mk hq
  clear hq
  go_wp2_with fail
  (with_reducible refine (H2.out).mono ?_); rintro e w3 ⟨v, rfl, hv, hd⟩
  obtain ⟨A8, c8, rfl, hl8, hC8⟩ := Rd.ofR hv
  clear hv
  have B4 : Sh (Below (w1).heap.size (w1) (((w3.alloc (.cells #[.int .i64 m, .slice A7 l.length c7] 41)).alloc (.cells #[.int .i64 m, .slice A8 l.length c8] 41)))) := ⟨below_alloc (below_alloc (hd) _) _⟩
  have r0C4 := Sh.mk (Kd.C_below r0C2.out B4.out)
  clear r0C2
  have r7C4 := Sh.mk (Kd.C_below r7C2.out B4.out)
  clear r7C2
  have HB4 : Sh (Below w.heap.size w (((w3.alloc (.cells #[.int .i64 m, .slice A7 l.length c7] 41)).alloc (.cells #[.int .i64 m, .slice A8 l.length c8] 41)))) := ⟨below_step HB2.out B4.out⟩
  clear HB2
  have g7_n3 : Sh ((((w3.alloc (.cells #[.int .i64 m, .slice A7 l.length c7] 41)).alloc (.cells #[.int .i64 m, .slice A8 l.length c8] 41))).heap[w3.heap.size]? = some (.cells #[.int .i64 m, .slice A7 l.length c7] 41 (0, 0))) := ⟨(blk_alloc (blk_new w3 _) _)⟩
  have g8_n3 : Sh ((((w3.alloc (.cells #[.int .i64 m, .slice A7 l.length c7] 41)).alloc (.cells #[.int .i64 m, .slice A8 l.length c8] 41))).heap[w3.heap.size + 1]? = some (.cells #[.int .i64 m, .slice A8 l.length c8] 41 (0, 0))) := ⟨(by have h := blk_new (w3.alloc (.cells #[.int .i64 m, .slice A7 l.length c7] 41)) (.cells #[.int .i64 m, .slice A8 l.length c8] 41); simpa using h)⟩
  clear hd
  have r8C4 : Sh (Kd.C k48 (((w3.alloc (.cells #[.int .i64 m, .slice A7 l.length c7] 41)).alloc (.cells #[.int .i64 m, .slice A8 l.length c8] 41))) A8 l.length l) := ⟨(Kd.C_alloc (Kd.C_alloc hC8 _) _)⟩
  have r8H := Sh.mk hl8
  clear hC8 hl8
  have q_g7_0 : (((w3.alloc (.cells #[.int .i64 m, .slice A7 l.length c7] 41)).alloc (.cells #[.int .i64 m, .slice A8 l.length c8] 41))).cell? ⟨w3.heap.size, 0, none⟩ = some (.int .i64 m) := (blk_cell g7_n3.out 0).trans rfl
  have q_g7_1 : (((w3.alloc (.cells #[.int .i64 m, .slice A7 l.length c7] 41)).alloc (.cells #[.int .i64 m, .slice A8 l.length c8] 41))).cell? ⟨w3.heap.size, 1, none⟩ = some (.slice A7 l.length c7) := (blk_cell g7_n3.out 1).trans rfl
  have q_g8_0 : (((w3.alloc (.cells #[.int .i64 m, .slice A7 l.length c7] 41)).alloc (.cells #[.int .i64 m, .slice A8 l.length c8] 41))).cell? ⟨w3.heap.size + 1, 0, none⟩ = some (.int .i64 m) := (blk_cell g8_n3.out 0).trans rfl
  have q_g8_1 : (((w3.alloc (.cells #[.int .i64 m, .slice A7 l.length c7] 41)).alloc (.cells #[.int .i64 m, .slice A8 l.length c8] 41))).cell? ⟨w3.heap.size + 1, 1, none⟩ = some (.slice A8 l.length c8) := (blk_cell g8_n3.out 1).trans rfl
  have hq := deeds_anyR (m := 2048) (by decide) r0C4.out HC.out HW8.out hmax
  rw [← HD.out] at hq
  have HE9 := Sh.mk hq
  clear hq
  go_wp2_with fail
  (with_reducible refine (HE9.out).mono ?_); rintro e w5 ⟨A9, c9, rfl, hl9, hC9, hd⟩
  clear q_g7_0 q_g7_1 q_g8_0 q_g8_1
  have B6 : Sh (Below (((w3.alloc (.cells #[.int .i64 m, .slice A7 l.length c7] 41)).alloc (.cells #[.int .i64 m, .slice A8 l.length c8] 41))).heap.size (((w3.alloc (.cells #[.int .i64 m, .slice A7 l.length c7] 41)).alloc (.cells #[.int .i64 m, .slice A8 l.length c8] 41))) (w5)) := ⟨hd⟩
  have g7_6 := Sh.mk (blk_below g7_n3.out B6.out)
  clear g7_n3
  have g8_6 := Sh.mk (blk_below g8_n3.out B6.out)
  clear g8_n3
  have r0C6 := Sh.mk (Kd.C_below r0C4.out B6.out)
  clear r0C4
  have r7C6 := Sh.mk (Kd.C_below r7C4.out B6.out)
  clear r7C4
  have r8C6 := Sh.mk (Kd.C_below r8C4.out B6.out)
  clear r8C4
  have HB6 : Sh (Below w.heap.size w (w5)) := ⟨below_step HB4.out B6.out⟩
  clear HB4
  clear hd
  have r9C6 : Sh (Kd.C k71 (w5) A9 D.length D) := ⟨hC9⟩
  have r9H := Sh.mk hl9
  clear hC9 hl9
  have q_g7_0 : (w5).cell? ⟨w3.heap.size, 0, none⟩ = some (.int .i64 m) := (blk_cell g7_6.out 0).trans rfl
  have q_g7_1 : (w5).cell? ⟨w3.heap.size, 1, none⟩ = some (.slice A7 l.length c7) := (blk_cell g7_6.out 1).trans rfl
  have q_g8_0 : (w5).cell? ⟨w3.heap.size + 1, 0, none⟩ = some (.int .i64 m) := (blk_cell g8_6.out 0).trans rfl
  have q_g8_1 : (w5).cell? ⟨w3.heap.size + 1, 1, none⟩ = some (.slice A8 l.length c8) := (blk_cell g8_6.out 1).trans rfl
  have hq := deeds_anyR (m := 2048) (by decide) r0C6.out HC.out HW8.out hmax
  rw [← HD.out] at hq
  have HE10 := Sh.mk hq
  clear hq
  go_wp2_with fail
  (with_reducible refine (HE10.out).mono ?_); rintro e w7 ⟨A10, c10, rfl, hl10, hC10, hd⟩
  clear q_g7_0 q_g7_1 q_g8_0 q_g8_1
  have B8 : Sh (Below (w5).heap.size (w5) (w7)) := ⟨hd⟩
  have g7_8 := Sh.mk (blk_below g7_6.out B8.out)
  clear g7_6
  have g8_8 := Sh.mk (blk_below g8_6.out B8.out)
  clear g8_6
  have r0C8 := Sh.mk (Kd.C_below r0C6.out B8.out)
  clear r0C6
  have r7C8 := Sh.mk (Kd.C_below r7C6.out B8.out)
  clear r7C6
  have r8C8 := Sh.mk (Kd.C_below r8C6.out B8.out)
  clear r8C6
  have r9C8 := Sh.mk (Kd.C_below r9C6.out B8.out)
  clear r9C6
  have HB8 : Sh (Below w.heap.size w (w7)) := ⟨below_step HB6.out B8.out⟩
  clear HB6
  clear hd
  have r10C8 : Sh (Kd.C k71 (w7) A10 D.length D) := ⟨hC10⟩
  have r10H := Sh.mk hl10
  clear hC10 hl10
  have q_g7_0 : (w7).cell? ⟨w3.heap.size, 0, none⟩ = some (.int .i64 m) := (blk_cell g7_8.out 0).trans rfl
  have q_g7_1 : (w7).cell? ⟨w3.heap.size, 1, none⟩ = some (.slice A7 l.length c7) := (blk_cell g7_8.out 1).trans rfl
  have q_g8_0 : (w7).cell? ⟨w3.heap.size + 1, 0, none⟩ = some (.int .i64 m) := (blk_cell g8_8.out 0).trans rfl
  have q_g8_1 : (w7).cell? ⟨w3.heap.size + 1, 1, none⟩ = some (.slice A8 l.length c8) := (blk_cell g8_8.out 1).trans rfl
  have hq := alloc_any HM.out HRT.out (by omega) ⟨A7, c7, rfl, r7H.out, r7C8.out⟩ a1 p
  rw [XE.out] at hq
  have HA := Sh.mk hq
  clear hq
  go_wp2_with fail
  (with_reducible refine (HA.out).mono ?_); rintro e w9 ⟨u, rfl, hu_, hd⟩
  clear q_g7_0 q_g7_1 q_g8_0 q_g8_1
  have B10 : Sh (Below (w7).heap.size (w7) (w9)) := ⟨hd⟩
  have g7_10 := Sh.mk (blk_below g7_8.out B10.out)
  clear g7_8
  have g8_10 := Sh.mk (blk_below g8_8.out B10.out)
  clear g8_8
  have r0C10 := Sh.mk (Kd.C_below r0C8.out B10.out)
  clear r0C8
  have r7C10 := Sh.mk (Kd.C_below r7C8.out B10.out)
  clear r7C8
  have r8C10 := Sh.mk (Kd.C_below r8C8.out B10.out)
  clear r8C8
  have r9C10 := Sh.mk (Kd.C_below r9C8.out B10.out)
  clear r9C8
  have r10C10 := Sh.mk (Kd.C_below r10C8.out B10.out)
  clear r10C8
  have HB10 : Sh (Below w.heap.size w (w9)) := ⟨below_step HB8.out B10.out⟩
  clear HB8
  clear hd
  clear hu_
  have q_g7_0 : (w9).cell? ⟨w3.heap.size, 0, none⟩ = some (.int .i64 m) := (blk_cell g7_10.out 0).trans rfl
  have q_g7_1 : (w9).cell? ⟨w3.heap.size, 1, none⟩ = some (.slice A7 l.length c7) := (blk_cell g7_10.out 1).trans rfl
  have q_g8_0 : (w9).cell? ⟨w3.heap.size + 1, 0, none⟩ = some (.int .i64 m) := (blk_cell g8_10.out 0).trans rfl
  have q_g8_1 : (w9).cell? ⟨w3.heap.size + 1, 1, none⟩ = some (.slice A8 l.length c8) := (blk_cell g8_10.out 1).trans rfl
  have hq := accepts_anyR HM.out HRT.out (by omega) ⟨A7, c7, rfl, r7H.out, r7C10.out⟩ r9C10.out r9H.out
  rw [QE.out] at hq
  have HAC := Sh.mk hq
  clear hq
  go_wp2_with fail
  (with_reducible refine (HAC.out).mono ?_); rintro e w11 ⟨u3, rfl, hu3_, hd⟩
  clear q_g7_0 q_g7_1 q_g8_0 q_g8_1
  have B12 : Sh (Below (w9).heap.size (w9) (w11)) := ⟨hd⟩
  have g7_12 := Sh.mk (blk_below g7_10.out B12.out)
  clear g7_10
  have g8_12 := Sh.mk (blk_below g8_10.out B12.out)
  clear g8_10
  have r0C12 := Sh.mk (Kd.C_below r0C10.out B12.out)
  clear r0C10
  have r7C12 := Sh.mk (Kd.C_below r7C10.out B12.out)
  clear r7C10
  have r8C12 := Sh.mk (Kd.C_below r8C10.out B12.out)
  clear r8C10
  have r9C12 := Sh.mk (Kd.C_below r9C10.out B12.out)
  clear r9C10
  have r10C12 := Sh.mk (Kd.C_below r10C10.out B12.out)
  clear r10C10
  have HB12 : Sh (Below w.heap.size w (w11)) := ⟨below_step HB10.out B12.out⟩
  clear HB10
  clear hd
  clear hu3_
  have q_g7_0 : (w11).cell? ⟨w3.heap.size, 0, none⟩ = some (.int .i64 m) := (blk_cell g7_12.out 0).trans rfl
  have q_g7_1 : (w11).cell? ⟨w3.heap.size, 1, none⟩ = some (.slice A7 l.length c7) := (blk_cell g7_12.out 1).trans rfl
  have q_g8_0 : (w11).cell? ⟨w3.heap.size + 1, 0, none⟩ = some (.int .i64 m) := (blk_cell g8_12.out 0).trans rfl
  have q_g8_1 : (w11).cell? ⟨w3.heap.size + 1, 1, none⟩ = some (.slice A8 l.length c8) := (blk_cell g8_12.out 1).trans rfl
  go_wp2
  go_loopw [11] (fun vi wr => ∃ i : Nat, i ≤ D.length ∧ vi = .int .i64 i ∧ Sh (Below w11.heap.size w11 wr)) (fun vi _ => D.length - (intOf vi).toNat)
  case atStart => exact ⟨0, Nat.zero_le _, rfl, ⟨Below.refl _ _⟩⟩
  case round =>
    clear q_g7_0 q_g7_1 q_g8_0 q_g8_1
    obtain ⟨i, hi_, rfl, HWR⟩ := hrel
    have B13 : Sh (Below (w11).heap.size (w11) (wr)) := ⟨HWR.out⟩
    have g7_13 := Sh.mk (blk_below g7_12.out B13.out)
    clear g7_12
    have g8_13 := Sh.mk (blk_below g8_12.out B13.out)
    clear g8_12
    have r0C13 := Sh.mk (Kd.C_below r0C12.out B13.out)
    clear r0C12
    have r7C13 := Sh.mk (Kd.C_below r7C12.out B13.out)
    clear r7C12
    have r8C13 := Sh.mk (Kd.C_below r8C12.out B13.out)
    clear r8C12
    have r9C13 := Sh.mk (Kd.C_below r9C12.out B13.out)
    clear r9C12
    have r10C13 := Sh.mk (Kd.C_below r10C12.out B13.out)
    clear r10C12
    have HB13 : Sh (Below w.heap.size w (wr)) := ⟨below_step HB12.out B13.out⟩
    clear HB12
    have q_g7_0 : (wr).cell? ⟨w3.heap.size, 0, none⟩ = some (.int .i64 m) := (blk_cell g7_13.out 0).trans rfl
    have q_g7_1 : (wr).cell? ⟨w3.heap.size, 1, none⟩ = some (.slice A7 l.length c7) := (blk_cell g7_13.out 1).trans rfl
    have q_g8_0 : (wr).cell? ⟨w3.heap.size + 1, 0, none⟩ = some (.int .i64 m) := (blk_cell g8_13.out 0).trans rfl
    have q_g8_1 : (wr).cell? ⟨w3.heap.size + 1, 1, none⟩ = some (.slice A8 l.length c8) := (blk_cell g8_13.out 1).trans rfl
    by_cases hlt : i < D.length
    · obtain ⟨ad9, rfl, e_d_0, e_d_1, e_d_2, e_d_3⟩ := at_T71 r9C13.out (i : Int) (by omega) (by omega)
      obtain ⟨d, hd⟩ : ∃ y, y = rd_T71 D (i : Int) := ⟨_, rfl⟩
      rw [← hd] at e_d_0 e_d_1 e_d_2 e_d_3
      rw [Int.toNat_natCast] at e_d_0 e_d_1 e_d_2 e_d_3
      have HX_d := Sh.mk hd
      clear hd
      obtain ⟨ad10, rfl, e_e_0, e_e_1, e_e_2, e_e_3⟩ := at_T71 r10C13.out (i : Int) (by omega) (by omega)
      obtain ⟨e, he⟩ : ∃ y, y = rd_T71 D (i : Int) := ⟨_, rfl⟩
      rw [← he] at e_e_0 e_e_1 e_e_2 e_e_3
      rw [Int.toNat_natCast] at e_e_0 e_e_1 e_e_2 e_e_3
      have HX_e := Sh.mk he
      clear he
      obtain rfl : e = d := by rw [HX_e.out, HX_d.out]
      go_wp2
      go_quiet (fail)
      go_wp2
      go_roundw
      case rel => exact ⟨i + 1, by omega, by go_num, ⟨pw_below_drewN HWR.out _⟩⟩
      case measure => simp [intOf]; omega
    · obtain rfl : i = D.length := by omega
      have hq := samem_any (m := m) (by omega) ⟨A7, c7, rfl, r7H.out, r7C13.out⟩ ⟨A8, c8, rfl, r8H.out, r8C13.out⟩
      have HS := Sh.mk hq
      clear hq
      go_wp2_with fail
      (with_reducible refine (HS.out).mono ?_); rintro e w14 ⟨rfl, hd⟩
      clear q_g7_0 q_g7_1 q_g8_0 q_g8_1
      have B15 : Sh (Below (wr).heap.size (wr) (w14)) := ⟨hd⟩
      have g7_15 := Sh.mk (blk_below g7_13.out B15.out)
      clear g7_13
      have g8_15 := Sh.mk (blk_below g8_13.out B15.out)
      clear g8_13
      have r0C15 := Sh.mk (Kd.C_below r0C13.out B15.out)
      clear r0C13
      have r7C15 := Sh.mk (Kd.C_below r7C13.out B15.out)
      clear r7C13
      have r8C15 := Sh.mk (Kd.C_below r8C13.out B15.out)
      clear r8C13
      have r9C15 := Sh.mk (Kd.C_below r9C13.out B15.out)
      clear r9C13
      have r10C15 := Sh.mk (Kd.C_below r10C13.out B15.out)
      clear r10C13
      have HB15 : Sh (Below w.heap.size w (w14)) := ⟨below_step HB13.out B15.out⟩
      clear HB13
      clear hd
      have q_g7_0 : (w14).cell? ⟨w3.heap.size, 0, none⟩ = some (.int .i64 m) := (blk_cell g7_15.out 0).trans rfl
      have q_g7_1 : (w14).cell? ⟨w3.heap.size, 1, none⟩ = some (.slice A7 l.length c7) := (blk_cell g7_15.out 1).trans rfl
      have q_g8_0 : (w14).cell? ⟨w3.heap.size + 1, 0, none⟩ = some (.int .i64 m) := (blk_cell g8_15.out 0).trans rfl
      have q_g8_1 : (w14).cell? ⟨w3.heap.size + 1, 1, none⟩ = some (.slice A8 l.length c8) := (blk_cell g8_15.out 1).trans rfl
      have HW := Sh.mk (awake_any (w14))
      go_wp2_with fail
      (with_reducible refine (HW.out).mono ?_); rintro e w16 ⟨rfl, hd⟩
      clear q_g7_0 q_g7_1 q_g8_0 q_g8_1
      have B17 : Sh (Below (w14).heap.size (w14) (w16)) := ⟨hd⟩
      have g7_17 := Sh.mk (blk_below g7_15.out B17.out)
      clear g7_15
      have g8_17 := Sh.mk (blk_below g8_15.out B17.out)
      clear g8_15
      have r0C17 := Sh.mk (Kd.C_below r0C15.out B17.out)
      clear r0C15
      have r7C17 := Sh.mk (Kd.C_below r7C15.out B17.out)
      clear r7C15
      have r8C17 := Sh.mk (Kd.C_below r8C15.out B17.out)
      clear r8C15
      have r9C17 := Sh.mk (Kd.C_below r9C15.out B17.out)
      clear r9C15
      have r10C17 := Sh.mk (Kd.C_below r10C15.out B17.out)
      clear r10C15
      have HB17 : Sh (Below w.heap.size w (w16)) := ⟨below_step HB15.out B17.out⟩
      clear HB15
      clear hd
      go_wp2
      refine bodyPost_ret (v := .bool true) (by simp [results, Try.results11, go_sem]) rfl ?_
      exact ⟨rfl, HB17.out⟩
theorem own_all (w : World) (A : Option Addr) (c : Nat) (ns : List Int) (hr : Kd.C (Kd.int .u8) w A ns.length ns) (hc : ns.length ≤ c) (hw : ∀ x ∈ ns, (Lit.int .u8 x).wf = true) (hmax : ns.length ≤ 140737488351232) (a1 : Int) (w1 : (Lit.int .u16 a1).wf = true) (a2 : Int) (w2 : (Lit.int .u16 a2).wf = true) :
    Calls Try.prog 11 #[.slice A ns.length c, .int .u16 a1, .int .u16 a2] w fun e w' => e = .returned (.bool true) ∧ Below w.heap.size w w' := by
  obtain ⟨l, k0, hmade, hrt, hl⟩ := made_ev ns hw hmax
  by_cases h : 0 < l.length
  · exact own_yes w A c ns hr hc hw hmax l k0 hmade hrt hl a1 w1 a2 w2 h
  · exact own_no w A c ns hr hc hw hmax l k0 hmade hrt hl a1 w1 a2 w2 h
end Go.Proofs.Ytflhbakjlbmfbaa
