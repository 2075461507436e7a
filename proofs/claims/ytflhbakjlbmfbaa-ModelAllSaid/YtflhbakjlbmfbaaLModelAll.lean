/- ModelAll's walk. No statement is proved here. -/
import Derived.Test.YtflhbakjlbmfbaaMayCalls
import Derived.Test.YtflhbakjlbmfbaaRefCalls
import Derived.Deep.RegionHeld3
namespace Go.Proofs.Ytflhbakjlbmfbaa
set_option linter.unusedVariables false
set_option linter.unusedSimpArgs false
open Go.RowKit Go.Proofs.YtflhbakjlbmfbaaW.PrintWords Go.Proofs.YtflhbakjlbmfbaaW.PrintLast Go.Proofs.YtflhbakjlbmfbaaW.PrintMore Pr Go.Proofs.Ytflhbakjlbmfbaa.Pure

set_option maxRecDepth 100000 in
set_option maxHeartbeats 8000000 in
theorem same_any (A : Option Addr) (c : Nat) (m n a : Int) (l : List Lv) (w : World) (hr : Kd.C k48 w A l.length l) (hc : l.length ≤ c) (hm : mOk m) (hrt : rtL m l) (hl : l.length ≤ 600) :
    Calls Try.prog 31 #[.agg #[.int .i64 m, .slice A l.length c], .int .i64 n, .int .i64 a] w fun e w' => e = .returned (.bool true) ∧ Below w.heap.size w w' := by
  have hu := Try.underlying48
  have hu2 := Try.underlying41
  have hi := Try.underlying3
  have HM := Sh.mk hm
  have HRT := Sh.mk hrt
  have HR := Sh.mk hr
  have HC := Sh.mk hc
  obtain ⟨xm, xl, xo, XE⟩ : ∃ xm xl xo, Sh (allocR m l n a = (xm, xl, xo)) := ⟨_, _, _, ⟨rfl⟩⟩
  obtain ⟨ym, yl, ye, YE⟩ : ∃ xm xl xo, Sh (freeR m l a = (xm, xl, xo)) := ⟨_, _, _, ⟨rfl⟩⟩
  obtain ⟨z0, z1, z2, zb, ZE⟩ : ∃ z0 z1 z2 zb, Sh (findR l a = (z0, z1, z2, zb)) := ⟨_, _, _, _, ⟨rfl⟩⟩
  have hxl : xl.length < 9223372036854775807 := by
    have h := XE.out
    unfold allocR at h
    cases e : allocL m l n a with
    | none => rw [e] at h; cases h; decide
    | some q => have h2 := (allocL_rt hm hrt e).2; rw [e] at h; cases h; omega
  have hyl : yl.length < 9223372036854775807 := by
    have h := YE.out
    unfold freeR at h
    split at h
    · cases h; have := delL_len a l; omega
    · cases h; decide
  clear hm hrt hr hc
  go_enter Try.func31, Try.ntmps31
  have B1 : Sh (Below (w).heap.size (w) ((w.alloc (.cells #[.int .i64 m, .slice A l.length c] 41)))) := ⟨(below_alloc (Below.refl _ _) _)⟩
  have r3C1 := Sh.mk (Kd.C_below HR.out B1.out)
  clear HR
  have HB1 : Sh (Below w.heap.size w ((w.alloc (.cells #[.int .i64 m, .slice A l.length c] 41)))) := B1
  have g3_n1 : Sh (((w.alloc (.cells #[.int .i64 m, .slice A l.length c] 41))).heap[w.heap.size]? = some (.cells #[.int .i64 m, .slice A l.length c] 41 (0, 0))) := ⟨blk_new w _⟩
  have q_g3_0 : ((w.alloc (.cells #[.int .i64 m, .slice A l.length c] 41))).cell? ⟨w.heap.size, 0, none⟩ = some (.int .i64 m) := (blk_cell g3_n1.out 0).trans rfl
  have q_g3_1 : ((w.alloc (.cells #[.int .i64 m, .slice A l.length c] 41))).cell? ⟨w.heap.size, 1, none⟩ = some (.slice A l.length c) := (blk_cell g3_n1.out 1).trans rfl
  have hq := alloc_any HM.out HRT.out (by omega) ⟨A, c, rfl, HC.out, r3C1.out⟩ n a
  rw [XE.out] at hq
  have H1 := Sh.mk hq
  clear hq
  go_wp2_with fail
  (with_reducible refine (H1.out).mono ?_); rintro e w2 ⟨u, rfl, hu_, hd⟩
  obtain ⟨A7, c7, rfl, hl7, hC7⟩ := hu_
  clear q_g3_0 q_g3_1
  have B3 : Sh (Below ((w.alloc (.cells #[.int .i64 m, .slice A l.length c] 41))).heap.size ((w.alloc (.cells #[.int .i64 m, .slice A l.length c] 41))) ((w2.alloc (.cells #[.int .i64 xm, .slice A7 xl.length c7] 41)))) := ⟨below_alloc (hd) _⟩
  have g3_3 := Sh.mk (blk_below g3_n1.out B3.out)
  clear g3_n1
  have r3C3 := Sh.mk (Kd.C_below r3C1.out B3.out)
  clear r3C1
  have HB3 : Sh (Below w.heap.size w ((w2.alloc (.cells #[.int .i64 xm, .slice A7 xl.length c7] 41)))) := ⟨below_step HB1.out B3.out⟩
  clear HB1
  have g7_n2 : Sh (((w2.alloc (.cells #[.int .i64 xm, .slice A7 xl.length c7] 41))).heap[w2.heap.size]? = some (.cells #[.int .i64 xm, .slice A7 xl.length c7] 41 (0, 0))) := ⟨(blk_new w2 _)⟩
  clear hd
  have r7C3 : Sh (Kd.C k48 ((w2.alloc (.cells #[.int .i64 xm, .slice A7 xl.length c7] 41))) A7 xl.length xl) := ⟨(Kd.C_alloc hC7 _)⟩
  have r7H := Sh.mk hl7
  clear hC7 hl7
  have q_g3_0 : ((w2.alloc (.cells #[.int .i64 xm, .slice A7 xl.length c7] 41))).cell? ⟨w.heap.size, 0, none⟩ = some (.int .i64 m) := (blk_cell g3_3.out 0).trans rfl
  have q_g3_1 : ((w2.alloc (.cells #[.int .i64 xm, .slice A7 xl.length c7] 41))).cell? ⟨w.heap.size, 1, none⟩ = some (.slice A l.length c) := (blk_cell g3_3.out 1).trans rfl
  have q_g7_0 : ((w2.alloc (.cells #[.int .i64 xm, .slice A7 xl.length c7] 41))).cell? ⟨w2.heap.size, 0, none⟩ = some (.int .i64 xm) := (blk_cell g7_n2.out 0).trans rfl
  have q_g7_1 : ((w2.alloc (.cells #[.int .i64 xm, .slice A7 xl.length c7] 41))).cell? ⟨w2.heap.size, 1, none⟩ = some (.slice A7 xl.length c7) := (blk_cell g7_n2.out 1).trans rfl
  have hq := ralloc_anyR HM.out HRT.out (by omega) ⟨A, c, rfl, HC.out, r3C3.out⟩ n a
  rw [XE.out] at hq
  have H2 := Sh.mk hq
  clear hq
  go_wp2_with fail
  (with_reducible refine (H2.out).mono ?_); rintro e w4 ⟨u, rfl, hu_, hd⟩
  obtain ⟨A9, c9, rfl, hl9, hC9⟩ := hu_
  clear q_g3_0 q_g3_1 q_g7_0 q_g7_1
  have B5 : Sh (Below ((w2.alloc (.cells #[.int .i64 xm, .slice A7 xl.length c7] 41))).heap.size ((w2.alloc (.cells #[.int .i64 xm, .slice A7 xl.length c7] 41))) ((w4.alloc (.cells #[.int .i64 xm, .slice A9 xl.length c9] 41)))) := ⟨below_alloc (hd) _⟩
  have g3_5 := Sh.mk (blk_below g3_3.out B5.out)
  clear g3_3
  have g7_5 := Sh.mk (blk_below g7_n2.out B5.out)
  clear g7_n2
  have r3C5 := Sh.mk (Kd.C_below r3C3.out B5.out)
  clear r3C3
  have r7C5 := Sh.mk (Kd.C_below r7C3.out B5.out)
  clear r7C3
  have HB5 : Sh (Below w.heap.size w ((w4.alloc (.cells #[.int .i64 xm, .slice A9 xl.length c9] 41)))) := ⟨below_step HB3.out B5.out⟩
  clear HB3
  have g9_n4 : Sh (((w4.alloc (.cells #[.int .i64 xm, .slice A9 xl.length c9] 41))).heap[w4.heap.size]? = some (.cells #[.int .i64 xm, .slice A9 xl.length c9] 41 (0, 0))) := ⟨(blk_new w4 _)⟩
  clear hd
  have r9C5 : Sh (Kd.C k48 ((w4.alloc (.cells #[.int .i64 xm, .slice A9 xl.length c9] 41))) A9 xl.length xl) := ⟨(Kd.C_alloc hC9 _)⟩
  have r9H := Sh.mk hl9
  clear hC9 hl9
  have q_g3_0 : ((w4.alloc (.cells #[.int .i64 xm, .slice A9 xl.length c9] 41))).cell? ⟨w.heap.size, 0, none⟩ = some (.int .i64 m) := (blk_cell g3_5.out 0).trans rfl
  have q_g3_1 : ((w4.alloc (.cells #[.int .i64 xm, .slice A9 xl.length c9] 41))).cell? ⟨w.heap.size, 1, none⟩ = some (.slice A l.length c) := (blk_cell g3_5.out 1).trans rfl
  have q_g7_0 : ((w4.alloc (.cells #[.int .i64 xm, .slice A9 xl.length c9] 41))).cell? ⟨w2.heap.size, 0, none⟩ = some (.int .i64 xm) := (blk_cell g7_5.out 0).trans rfl
  have q_g7_1 : ((w4.alloc (.cells #[.int .i64 xm, .slice A9 xl.length c9] 41))).cell? ⟨w2.heap.size, 1, none⟩ = some (.slice A7 xl.length c7) := (blk_cell g7_5.out 1).trans rfl
  have q_g9_0 : ((w4.alloc (.cells #[.int .i64 xm, .slice A9 xl.length c9] 41))).cell? ⟨w4.heap.size, 0, none⟩ = some (.int .i64 xm) := (blk_cell g9_n4.out 0).trans rfl
  have q_g9_1 : ((w4.alloc (.cells #[.int .i64 xm, .slice A9 xl.length c9] 41))).cell? ⟨w4.heap.size, 1, none⟩ = some (.slice A9 xl.length c9) := (blk_cell g9_n4.out 1).trans rfl
  have hq := free_any (m := m) HRT.out (by omega) ⟨A, c, rfl, HC.out, r3C5.out⟩ a
  rw [YE.out] at hq
  have H3 := Sh.mk hq
  clear hq
  go_wp2_with fail
  (with_reducible refine (H3.out).mono ?_); rintro e w6 ⟨u, rfl, hu_, hd⟩
  obtain ⟨A11, c11, rfl, hl11, hC11⟩ := hu_
  clear q_g3_0 q_g3_1 q_g7_0 q_g7_1 q_g9_0 q_g9_1
  have B7 : Sh (Below ((w4.alloc (.cells #[.int .i64 xm, .slice A9 xl.length c9] 41))).heap.size ((w4.alloc (.cells #[.int .i64 xm, .slice A9 xl.length c9] 41))) ((w6.alloc (.cells #[.int .i64 ym, .slice A11 yl.length c11] 41)))) := ⟨below_alloc (hd) _⟩
  have g3_7 := Sh.mk (blk_below g3_5.out B7.out)
  clear g3_5
  have g7_7 := Sh.mk (blk_below g7_5.out B7.out)
  clear g7_5
  have g9_7 := Sh.mk (blk_below g9_n4.out B7.out)
  clear g9_n4
  have r3C7 := Sh.mk (Kd.C_below r3C5.out B7.out)
  clear r3C5
  have r7C7 := Sh.mk (Kd.C_below r7C5.out B7.out)
  clear r7C5
  have r9C7 := Sh.mk (Kd.C_below r9C5.out B7.out)
  clear r9C5
  have HB7 : Sh (Below w.heap.size w ((w6.alloc (.cells #[.int .i64 ym, .slice A11 yl.length c11] 41)))) := ⟨below_step HB5.out B7.out⟩
  clear HB5
  have g11_n6 : Sh (((w6.alloc (.cells #[.int .i64 ym, .slice A11 yl.length c11] 41))).heap[w6.heap.size]? = some (.cells #[.int .i64 ym, .slice A11 yl.length c11] 41 (0, 0))) := ⟨(blk_new w6 _)⟩
  clear hd
  have r11C7 : Sh (Kd.C k48 ((w6.alloc (.cells #[.int .i64 ym, .slice A11 yl.length c11] 41))) A11 yl.length yl) := ⟨(Kd.C_alloc hC11 _)⟩
  have r11H := Sh.mk hl11
  clear hC11 hl11
  have q_g3_0 : ((w6.alloc (.cells #[.int .i64 ym, .slice A11 yl.length c11] 41))).cell? ⟨w.heap.size, 0, none⟩ = some (.int .i64 m) := (blk_cell g3_7.out 0).trans rfl
  have q_g3_1 : ((w6.alloc (.cells #[.int .i64 ym, .slice A11 yl.length c11] 41))).cell? ⟨w.heap.size, 1, none⟩ = some (.slice A l.length c) := (blk_cell g3_7.out 1).trans rfl
  have q_g7_0 : ((w6.alloc (.cells #[.int .i64 ym, .slice A11 yl.length c11] 41))).cell? ⟨w2.heap.size, 0, none⟩ = some (.int .i64 xm) := (blk_cell g7_7.out 0).trans rfl
  have q_g7_1 : ((w6.alloc (.cells #[.int .i64 ym, .slice A11 yl.length c11] 41))).cell? ⟨w2.heap.size, 1, none⟩ = some (.slice A7 xl.length c7) := (blk_cell g7_7.out 1).trans rfl
  have q_g9_0 : ((w6.alloc (.cells #[.int .i64 ym, .slice A11 yl.length c11] 41))).cell? ⟨w4.heap.size, 0, none⟩ = some (.int .i64 xm) := (blk_cell g9_7.out 0).trans rfl
  have q_g9_1 : ((w6.alloc (.cells #[.int .i64 ym, .slice A11 yl.length c11] 41))).cell? ⟨w4.heap.size, 1, none⟩ = some (.slice A9 xl.length c9) := (blk_cell g9_7.out 1).trans rfl
  have q_g11_0 : ((w6.alloc (.cells #[.int .i64 ym, .slice A11 yl.length c11] 41))).cell? ⟨w6.heap.size, 0, none⟩ = some (.int .i64 ym) := (blk_cell g11_n6.out 0).trans rfl
  have q_g11_1 : ((w6.alloc (.cells #[.int .i64 ym, .slice A11 yl.length c11] 41))).cell? ⟨w6.heap.size, 1, none⟩ = some (.slice A11 yl.length c11) := (blk_cell g11_n6.out 1).trans rfl
  have hq := rfree_any (m := m) HRT.out (by omega) ⟨A, c, rfl, HC.out, r3C7.out⟩ a
  rw [YE.out] at hq
  have H4 := Sh.mk hq
  clear hq
  go_wp2_with fail
  (with_reducible refine (H4.out).mono ?_); rintro e w8 ⟨u, rfl, hu_, hd⟩
  obtain ⟨A13, c13, rfl, hl13, hC13⟩ := hu_
  clear q_g3_0 q_g3_1 q_g7_0 q_g7_1 q_g9_0 q_g9_1 q_g11_0 q_g11_1
  have B9 : Sh (Below ((w6.alloc (.cells #[.int .i64 ym, .slice A11 yl.length c11] 41))).heap.size ((w6.alloc (.cells #[.int .i64 ym, .slice A11 yl.length c11] 41))) ((w8.alloc (.cells #[.int .i64 ym, .slice A13 yl.length c13] 41)))) := ⟨below_alloc (hd) _⟩
  have g3_9 := Sh.mk (blk_below g3_7.out B9.out)
  clear g3_7
  have g7_9 := Sh.mk (blk_below g7_7.out B9.out)
  clear g7_7
  have g9_9 := Sh.mk (blk_below g9_7.out B9.out)
  clear g9_7
  have g11_9 := Sh.mk (blk_below g11_n6.out B9.out)
  clear g11_n6
  have r3C9 := Sh.mk (Kd.C_below r3C7.out B9.out)
  clear r3C7
  have r7C9 := Sh.mk (Kd.C_below r7C7.out B9.out)
  clear r7C7
  have r9C9 := Sh.mk (Kd.C_below r9C7.out B9.out)
  clear r9C7
  have r11C9 := Sh.mk (Kd.C_below r11C7.out B9.out)
  clear r11C7
  have HB9 : Sh (Below w.heap.size w ((w8.alloc (.cells #[.int .i64 ym, .slice A13 yl.length c13] 41)))) := ⟨below_step HB7.out B9.out⟩
  clear HB7
  have g13_n8 : Sh (((w8.alloc (.cells #[.int .i64 ym, .slice A13 yl.length c13] 41))).heap[w8.heap.size]? = some (.cells #[.int .i64 ym, .slice A13 yl.length c13] 41 (0, 0))) := ⟨(blk_new w8 _)⟩
  clear hd
  have r13C9 : Sh (Kd.C k48 ((w8.alloc (.cells #[.int .i64 ym, .slice A13 yl.length c13] 41))) A13 yl.length yl) := ⟨(Kd.C_alloc hC13 _)⟩
  have r13H := Sh.mk hl13
  clear hC13 hl13
  have q_g3_0 : ((w8.alloc (.cells #[.int .i64 ym, .slice A13 yl.length c13] 41))).cell? ⟨w.heap.size, 0, none⟩ = some (.int .i64 m) := (blk_cell g3_9.out 0).trans rfl
  have q_g3_1 : ((w8.alloc (.cells #[.int .i64 ym, .slice A13 yl.length c13] 41))).cell? ⟨w.heap.size, 1, none⟩ = some (.slice A l.length c) := (blk_cell g3_9.out 1).trans rfl
  have q_g7_0 : ((w8.alloc (.cells #[.int .i64 ym, .slice A13 yl.length c13] 41))).cell? ⟨w2.heap.size, 0, none⟩ = some (.int .i64 xm) := (blk_cell g7_9.out 0).trans rfl
  have q_g7_1 : ((w8.alloc (.cells #[.int .i64 ym, .slice A13 yl.length c13] 41))).cell? ⟨w2.heap.size, 1, none⟩ = some (.slice A7 xl.length c7) := (blk_cell g7_9.out 1).trans rfl
  have q_g9_0 : ((w8.alloc (.cells #[.int .i64 ym, .slice A13 yl.length c13] 41))).cell? ⟨w4.heap.size, 0, none⟩ = some (.int .i64 xm) := (blk_cell g9_9.out 0).trans rfl
  have q_g9_1 : ((w8.alloc (.cells #[.int .i64 ym, .slice A13 yl.length c13] 41))).cell? ⟨w4.heap.size, 1, none⟩ = some (.slice A9 xl.length c9) := (blk_cell g9_9.out 1).trans rfl
  have q_g11_0 : ((w8.alloc (.cells #[.int .i64 ym, .slice A13 yl.length c13] 41))).cell? ⟨w6.heap.size, 0, none⟩ = some (.int .i64 ym) := (blk_cell g11_9.out 0).trans rfl
  have q_g11_1 : ((w8.alloc (.cells #[.int .i64 ym, .slice A13 yl.length c13] 41))).cell? ⟨w6.heap.size, 1, none⟩ = some (.slice A11 yl.length c11) := (blk_cell g11_9.out 1).trans rfl
  have q_g13_0 : ((w8.alloc (.cells #[.int .i64 ym, .slice A13 yl.length c13] 41))).cell? ⟨w8.heap.size, 0, none⟩ = some (.int .i64 ym) := (blk_cell g13_n8.out 0).trans rfl
  have q_g13_1 : ((w8.alloc (.cells #[.int .i64 ym, .slice A13 yl.length c13] 41))).cell? ⟨w8.heap.size, 1, none⟩ = some (.slice A13 yl.length c13) := (blk_cell g13_n8.out 1).trans rfl
  have hq := find_any (m := m) HRT.out (by omega) ⟨A, c, rfl, HC.out, r3C9.out⟩ a
  rw [ZE.out] at hq
  have H5 := Sh.mk hq
  clear hq
  go_wp2_with fail
  (with_reducible refine (H5.out).mono ?_); rintro e w10 ⟨rfl, hd⟩
  clear q_g3_0 q_g3_1 q_g7_0 q_g7_1 q_g9_0 q_g9_1 q_g11_0 q_g11_1 q_g13_0 q_g13_1
  have B11 : Sh (Below ((w8.alloc (.cells #[.int .i64 ym, .slice A13 yl.length c13] 41))).heap.size ((w8.alloc (.cells #[.int .i64 ym, .slice A13 yl.length c13] 41))) ((w10.alloc (.cells #[.int .i64 z0, .int .i64 z1, .int .i64 z2] 48)))) := ⟨below_alloc (hd) _⟩
  have g3_11 := Sh.mk (blk_below g3_9.out B11.out)
  clear g3_9
  have g7_11 := Sh.mk (blk_below g7_9.out B11.out)
  clear g7_9
  have g9_11 := Sh.mk (blk_below g9_9.out B11.out)
  clear g9_9
  have g11_11 := Sh.mk (blk_below g11_9.out B11.out)
  clear g11_9
  have g13_11 := Sh.mk (blk_below g13_n8.out B11.out)
  clear g13_n8
  have r3C11 := Sh.mk (Kd.C_below r3C9.out B11.out)
  clear r3C9
  have r7C11 := Sh.mk (Kd.C_below r7C9.out B11.out)
  clear r7C9
  have r9C11 := Sh.mk (Kd.C_below r9C9.out B11.out)
  clear r9C9
  have r11C11 := Sh.mk (Kd.C_below r11C9.out B11.out)
  clear r11C9
  have r13C11 := Sh.mk (Kd.C_below r13C9.out B11.out)
  clear r13C9
  have HB11 : Sh (Below w.heap.size w ((w10.alloc (.cells #[.int .i64 z0, .int .i64 z1, .int .i64 z2] 48)))) := ⟨below_step HB9.out B11.out⟩
  clear HB9
  have g15_n10 : Sh (((w10.alloc (.cells #[.int .i64 z0, .int .i64 z1, .int .i64 z2] 48))).heap[w10.heap.size]? = some (.cells #[.int .i64 z0, .int .i64 z1, .int .i64 z2] 48 (0, 0))) := ⟨(blk_new w10 _)⟩
  clear hd
  have q_g3_0 : ((w10.alloc (.cells #[.int .i64 z0, .int .i64 z1, .int .i64 z2] 48))).cell? ⟨w.heap.size, 0, none⟩ = some (.int .i64 m) := (blk_cell g3_11.out 0).trans rfl
  have q_g3_1 : ((w10.alloc (.cells #[.int .i64 z0, .int .i64 z1, .int .i64 z2] 48))).cell? ⟨w.heap.size, 1, none⟩ = some (.slice A l.length c) := (blk_cell g3_11.out 1).trans rfl
  have q_g7_0 : ((w10.alloc (.cells #[.int .i64 z0, .int .i64 z1, .int .i64 z2] 48))).cell? ⟨w2.heap.size, 0, none⟩ = some (.int .i64 xm) := (blk_cell g7_11.out 0).trans rfl
  have q_g7_1 : ((w10.alloc (.cells #[.int .i64 z0, .int .i64 z1, .int .i64 z2] 48))).cell? ⟨w2.heap.size, 1, none⟩ = some (.slice A7 xl.length c7) := (blk_cell g7_11.out 1).trans rfl
  have q_g9_0 : ((w10.alloc (.cells #[.int .i64 z0, .int .i64 z1, .int .i64 z2] 48))).cell? ⟨w4.heap.size, 0, none⟩ = some (.int .i64 xm) := (blk_cell g9_11.out 0).trans rfl
  have q_g9_1 : ((w10.alloc (.cells #[.int .i64 z0, .int .i64 z1, .int .i64 z2] 48))).cell? ⟨w4.heap.size, 1, none⟩ = some (.slice A9 xl.length c9) := (blk_cell g9_11.out 1).trans rfl
  have q_g11_0 : ((w10.alloc (.cells #[.int .i64 z0, .int .i64 z1, .int .i64 z2] 48))).cell? ⟨w6.heap.size, 0, none⟩ = some (.int .i64 ym) := (blk_cell g11_11.out 0).trans rfl
  have q_g11_1 : ((w10.alloc (.cells #[.int .i64 z0, .int .i64 z1, .int .i64 z2] 48))).cell? ⟨w6.heap.size, 1, none⟩ = some (.slice A11 yl.length c11) := (blk_cell g11_11.out 1).trans rfl
  have q_g13_0 : ((w10.alloc (.cells #[.int .i64 z0, .int .i64 z1, .int .i64 z2] 48))).cell? ⟨w8.heap.size, 0, none⟩ = some (.int .i64 ym) := (blk_cell g13_11.out 0).trans rfl
  have q_g13_1 : ((w10.alloc (.cells #[.int .i64 z0, .int .i64 z1, .int .i64 z2] 48))).cell? ⟨w8.heap.size, 1, none⟩ = some (.slice A13 yl.length c13) := (blk_cell g13_11.out 1).trans rfl
  have q_g15_0 : ((w10.alloc (.cells #[.int .i64 z0, .int .i64 z1, .int .i64 z2] 48))).cell? ⟨w10.heap.size, 0, none⟩ = some (.int .i64 z0) := (blk_cell g15_n10.out 0).trans rfl
  have q_g15_1 : ((w10.alloc (.cells #[.int .i64 z0, .int .i64 z1, .int .i64 z2] 48))).cell? ⟨w10.heap.size, 1, none⟩ = some (.int .i64 z1) := (blk_cell g15_n10.out 1).trans rfl
  have q_g15_2 : ((w10.alloc (.cells #[.int .i64 z0, .int .i64 z1, .int .i64 z2] 48))).cell? ⟨w10.heap.size, 2, none⟩ = some (.int .i64 z2) := (blk_cell g15_n10.out 2).trans rfl
  have hq := rfind_any (m := m) HRT.out (by omega) ⟨A, c, rfl, HC.out, r3C11.out⟩ a
  rw [ZE.out] at hq
  have H6 := Sh.mk hq
  clear hq
  go_wp2_with fail
  (with_reducible refine (H6.out).mono ?_); rintro e w12 ⟨rfl, hd⟩
  clear q_g3_0 q_g3_1 q_g7_0 q_g7_1 q_g9_0 q_g9_1 q_g11_0 q_g11_1 q_g13_0 q_g13_1 q_g15_0 q_g15_1 q_g15_2
  have B13 : Sh (Below ((w10.alloc (.cells #[.int .i64 z0, .int .i64 z1, .int .i64 z2] 48))).heap.size ((w10.alloc (.cells #[.int .i64 z0, .int .i64 z1, .int .i64 z2] 48))) ((w12.alloc (.cells #[.int .i64 z0, .int .i64 z1, .int .i64 z2] 48)))) := ⟨below_alloc (hd) _⟩
  have g3_13 := Sh.mk (blk_below g3_11.out B13.out)
  clear g3_11
  have g7_13 := Sh.mk (blk_below g7_11.out B13.out)
  clear g7_11
  have g9_13 := Sh.mk (blk_below g9_11.out B13.out)
  clear g9_11
  have g11_13 := Sh.mk (blk_below g11_11.out B13.out)
  clear g11_11
  have g13_13 := Sh.mk (blk_below g13_11.out B13.out)
  clear g13_11
  have g15_13 := Sh.mk (blk_below g15_n10.out B13.out)
  clear g15_n10
  have r3C13 := Sh.mk (Kd.C_below r3C11.out B13.out)
  clear r3C11
  have r7C13 := Sh.mk (Kd.C_below r7C11.out B13.out)
  clear r7C11
  have r9C13 := Sh.mk (Kd.C_below r9C11.out B13.out)
  clear r9C11
  have r11C13 := Sh.mk (Kd.C_below r11C11.out B13.out)
  clear r11C11
  have r13C13 := Sh.mk (Kd.C_below r13C11.out B13.out)
  clear r13C11
  have HB13 : Sh (Below w.heap.size w ((w12.alloc (.cells #[.int .i64 z0, .int .i64 z1, .int .i64 z2] 48)))) := ⟨below_step HB11.out B13.out⟩
  clear HB11
  have g17_n12 : Sh (((w12.alloc (.cells #[.int .i64 z0, .int .i64 z1, .int .i64 z2] 48))).heap[w12.heap.size]? = some (.cells #[.int .i64 z0, .int .i64 z1, .int .i64 z2] 48 (0, 0))) := ⟨(blk_new w12 _)⟩
  clear hd
  have q_g3_0 : ((w12.alloc (.cells #[.int .i64 z0, .int .i64 z1, .int .i64 z2] 48))).cell? ⟨w.heap.size, 0, none⟩ = some (.int .i64 m) := (blk_cell g3_13.out 0).trans rfl
  have q_g3_1 : ((w12.alloc (.cells #[.int .i64 z0, .int .i64 z1, .int .i64 z2] 48))).cell? ⟨w.heap.size, 1, none⟩ = some (.slice A l.length c) := (blk_cell g3_13.out 1).trans rfl
  have q_g7_0 : ((w12.alloc (.cells #[.int .i64 z0, .int .i64 z1, .int .i64 z2] 48))).cell? ⟨w2.heap.size, 0, none⟩ = some (.int .i64 xm) := (blk_cell g7_13.out 0).trans rfl
  have q_g7_1 : ((w12.alloc (.cells #[.int .i64 z0, .int .i64 z1, .int .i64 z2] 48))).cell? ⟨w2.heap.size, 1, none⟩ = some (.slice A7 xl.length c7) := (blk_cell g7_13.out 1).trans rfl
  have q_g9_0 : ((w12.alloc (.cells #[.int .i64 z0, .int .i64 z1, .int .i64 z2] 48))).cell? ⟨w4.heap.size, 0, none⟩ = some (.int .i64 xm) := (blk_cell g9_13.out 0).trans rfl
  have q_g9_1 : ((w12.alloc (.cells #[.int .i64 z0, .int .i64 z1, .int .i64 z2] 48))).cell? ⟨w4.heap.size, 1, none⟩ = some (.slice A9 xl.length c9) := (blk_cell g9_13.out 1).trans rfl
  have q_g11_0 : ((w12.alloc (.cells #[.int .i64 z0, .int .i64 z1, .int .i64 z2] 48))).cell? ⟨w6.heap.size, 0, none⟩ = some (.int .i64 ym) := (blk_cell g11_13.out 0).trans rfl
  have q_g11_1 : ((w12.alloc (.cells #[.int .i64 z0, .int .i64 z1, .int .i64 z2] 48))).cell? ⟨w6.heap.size, 1, none⟩ = some (.slice A11 yl.length c11) := (blk_cell g11_13.out 1).trans rfl
  have q_g13_0 : ((w12.alloc (.cells #[.int .i64 z0, .int .i64 z1, .int .i64 z2] 48))).cell? ⟨w8.heap.size, 0, none⟩ = some (.int .i64 ym) := (blk_cell g13_13.out 0).trans rfl
  have q_g13_1 : ((w12.alloc (.cells #[.int .i64 z0, .int .i64 z1, .int .i64 z2] 48))).cell? ⟨w8.heap.size, 1, none⟩ = some (.slice A13 yl.length c13) := (blk_cell g13_13.out 1).trans rfl
  have q_g15_0 : ((w12.alloc (.cells #[.int .i64 z0, .int .i64 z1, .int .i64 z2] 48))).cell? ⟨w10.heap.size, 0, none⟩ = some (.int .i64 z0) := (blk_cell g15_13.out 0).trans rfl
  have q_g15_1 : ((w12.alloc (.cells #[.int .i64 z0, .int .i64 z1, .int .i64 z2] 48))).cell? ⟨w10.heap.size, 1, none⟩ = some (.int .i64 z1) := (blk_cell g15_13.out 1).trans rfl
  have q_g15_2 : ((w12.alloc (.cells #[.int .i64 z0, .int .i64 z1, .int .i64 z2] 48))).cell? ⟨w10.heap.size, 2, none⟩ = some (.int .i64 z2) := (blk_cell g15_13.out 2).trans rfl
  have q_g17_0 : ((w12.alloc (.cells #[.int .i64 z0, .int .i64 z1, .int .i64 z2] 48))).cell? ⟨w12.heap.size, 0, none⟩ = some (.int .i64 z0) := (blk_cell g17_n12.out 0).trans rfl
  have q_g17_1 : ((w12.alloc (.cells #[.int .i64 z0, .int .i64 z1, .int .i64 z2] 48))).cell? ⟨w12.heap.size, 1, none⟩ = some (.int .i64 z1) := (blk_cell g17_n12.out 1).trans rfl
  have q_g17_2 : ((w12.alloc (.cells #[.int .i64 z0, .int .i64 z1, .int .i64 z2] 48))).cell? ⟨w12.heap.size, 2, none⟩ = some (.int .i64 z2) := (blk_cell g17_n12.out 2).trans rfl
  have hq := samem_any (m := xm) hxl ⟨A7, c7, rfl, r7H.out, r7C13.out⟩ ⟨A9, c9, rfl, r9H.out, r9C13.out⟩
  have H7 := Sh.mk hq
  clear hq
  go_wp2_with fail
  (with_reducible refine (H7.out).mono ?_); rintro e w14 ⟨rfl, hd⟩
  clear q_g3_0 q_g3_1 q_g7_0 q_g7_1 q_g9_0 q_g9_1 q_g11_0 q_g11_1 q_g13_0 q_g13_1 q_g15_0 q_g15_1 q_g15_2 q_g17_0 q_g17_1 q_g17_2
  have B15 : Sh (Below ((w12.alloc (.cells #[.int .i64 z0, .int .i64 z1, .int .i64 z2] 48))).heap.size ((w12.alloc (.cells #[.int .i64 z0, .int .i64 z1, .int .i64 z2] 48))) (w14)) := ⟨hd⟩
  have g3_15 := Sh.mk (blk_below g3_13.out B15.out)
  clear g3_13
  have g7_15 := Sh.mk (blk_below g7_13.out B15.out)
  clear g7_13
  have g9_15 := Sh.mk (blk_below g9_13.out B15.out)
  clear g9_13
  have g11_15 := Sh.mk (blk_below g11_13.out B15.out)
  clear g11_13
  have g13_15 := Sh.mk (blk_below g13_13.out B15.out)
  clear g13_13
  have g15_15 := Sh.mk (blk_below g15_13.out B15.out)
  clear g15_13
  have g17_15 := Sh.mk (blk_below g17_n12.out B15.out)
  clear g17_n12
  have r3C15 := Sh.mk (Kd.C_below r3C13.out B15.out)
  clear r3C13
  have r7C15 := Sh.mk (Kd.C_below r7C13.out B15.out)
  clear r7C13
  have r9C15 := Sh.mk (Kd.C_below r9C13.out B15.out)
  clear r9C13
  have r11C15 := Sh.mk (Kd.C_below r11C13.out B15.out)
  clear r11C13
  have r13C15 := Sh.mk (Kd.C_below r13C13.out B15.out)
  clear r13C13
  have HB15 : Sh (Below w.heap.size w (w14)) := ⟨below_step HB13.out B15.out⟩
  clear HB13
  clear hd
  have q_g3_0 : (w14).cell? ⟨w.heap.size, 0, none⟩ = some (.int .i64 m) := (blk_cell g3_15.out 0).trans rfl
  have q_g3_1 : (w14).cell? ⟨w.heap.size, 1, none⟩ = some (.slice A l.length c) := (blk_cell g3_15.out 1).trans rfl
  have q_g7_0 : (w14).cell? ⟨w2.heap.size, 0, none⟩ = some (.int .i64 xm) := (blk_cell g7_15.out 0).trans rfl
  have q_g7_1 : (w14).cell? ⟨w2.heap.size, 1, none⟩ = some (.slice A7 xl.length c7) := (blk_cell g7_15.out 1).trans rfl
  have q_g9_0 : (w14).cell? ⟨w4.heap.size, 0, none⟩ = some (.int .i64 xm) := (blk_cell g9_15.out 0).trans rfl
  have q_g9_1 : (w14).cell? ⟨w4.heap.size, 1, none⟩ = some (.slice A9 xl.length c9) := (blk_cell g9_15.out 1).trans rfl
  have q_g11_0 : (w14).cell? ⟨w6.heap.size, 0, none⟩ = some (.int .i64 ym) := (blk_cell g11_15.out 0).trans rfl
  have q_g11_1 : (w14).cell? ⟨w6.heap.size, 1, none⟩ = some (.slice A11 yl.length c11) := (blk_cell g11_15.out 1).trans rfl
  have q_g13_0 : (w14).cell? ⟨w8.heap.size, 0, none⟩ = some (.int .i64 ym) := (blk_cell g13_15.out 0).trans rfl
  have q_g13_1 : (w14).cell? ⟨w8.heap.size, 1, none⟩ = some (.slice A13 yl.length c13) := (blk_cell g13_15.out 1).trans rfl
  have q_g15_0 : (w14).cell? ⟨w10.heap.size, 0, none⟩ = some (.int .i64 z0) := (blk_cell g15_15.out 0).trans rfl
  have q_g15_1 : (w14).cell? ⟨w10.heap.size, 1, none⟩ = some (.int .i64 z1) := (blk_cell g15_15.out 1).trans rfl
  have q_g15_2 : (w14).cell? ⟨w10.heap.size, 2, none⟩ = some (.int .i64 z2) := (blk_cell g15_15.out 2).trans rfl
  have q_g17_0 : (w14).cell? ⟨w12.heap.size, 0, none⟩ = some (.int .i64 z0) := (blk_cell g17_15.out 0).trans rfl
  have q_g17_1 : (w14).cell? ⟨w12.heap.size, 1, none⟩ = some (.int .i64 z1) := (blk_cell g17_15.out 1).trans rfl
  have q_g17_2 : (w14).cell? ⟨w12.heap.size, 2, none⟩ = some (.int .i64 z2) := (blk_cell g17_15.out 2).trans rfl
  have hq := samem_any (m := ym) hyl ⟨A11, c11, rfl, r11H.out, r11C15.out⟩ ⟨A13, c13, rfl, r13H.out, r13C15.out⟩
  have H8 := Sh.mk hq
  clear hq
  go_wp2_with fail
  (with_reducible refine (H8.out).mono ?_); rintro e w16 ⟨rfl, hd⟩
  clear q_g3_0 q_g3_1 q_g7_0 q_g7_1 q_g9_0 q_g9_1 q_g11_0 q_g11_1 q_g13_0 q_g13_1 q_g15_0 q_g15_1 q_g15_2 q_g17_0 q_g17_1 q_g17_2
  have B17 : Sh (Below (w14).heap.size (w14) (w16)) := ⟨hd⟩
  have g3_17 := Sh.mk (blk_below g3_15.out B17.out)
  clear g3_15
  have g7_17 := Sh.mk (blk_below g7_15.out B17.out)
  clear g7_15
  have g9_17 := Sh.mk (blk_below g9_15.out B17.out)
  clear g9_15
  have g11_17 := Sh.mk (blk_below g11_15.out B17.out)
  clear g11_15
  have g13_17 := Sh.mk (blk_below g13_15.out B17.out)
  clear g13_15
  have g15_17 := Sh.mk (blk_below g15_15.out B17.out)
  clear g15_15
  have g17_17 := Sh.mk (blk_below g17_15.out B17.out)
  clear g17_15
  have r3C17 := Sh.mk (Kd.C_below r3C15.out B17.out)
  clear r3C15
  have r7C17 := Sh.mk (Kd.C_below r7C15.out B17.out)
  clear r7C15
  have r9C17 := Sh.mk (Kd.C_below r9C15.out B17.out)
  clear r9C15
  have r11C17 := Sh.mk (Kd.C_below r11C15.out B17.out)
  clear r11C15
  have r13C17 := Sh.mk (Kd.C_below r13C15.out B17.out)
  clear r13C15
  have HB17 : Sh (Below w.heap.size w (w16)) := ⟨below_step HB15.out B17.out⟩
  clear HB15
  clear hd
  have q_g3_0 : (w16).cell? ⟨w.heap.size, 0, none⟩ = some (.int .i64 m) := (blk_cell g3_17.out 0).trans rfl
  have q_g3_1 : (w16).cell? ⟨w.heap.size, 1, none⟩ = some (.slice A l.length c) := (blk_cell g3_17.out 1).trans rfl
  have q_g7_0 : (w16).cell? ⟨w2.heap.size, 0, none⟩ = some (.int .i64 xm) := (blk_cell g7_17.out 0).trans rfl
  have q_g7_1 : (w16).cell? ⟨w2.heap.size, 1, none⟩ = some (.slice A7 xl.length c7) := (blk_cell g7_17.out 1).trans rfl
  have q_g9_0 : (w16).cell? ⟨w4.heap.size, 0, none⟩ = some (.int .i64 xm) := (blk_cell g9_17.out 0).trans rfl
  have q_g9_1 : (w16).cell? ⟨w4.heap.size, 1, none⟩ = some (.slice A9 xl.length c9) := (blk_cell g9_17.out 1).trans rfl
  have q_g11_0 : (w16).cell? ⟨w6.heap.size, 0, none⟩ = some (.int .i64 ym) := (blk_cell g11_17.out 0).trans rfl
  have q_g11_1 : (w16).cell? ⟨w6.heap.size, 1, none⟩ = some (.slice A11 yl.length c11) := (blk_cell g11_17.out 1).trans rfl
  have q_g13_0 : (w16).cell? ⟨w8.heap.size, 0, none⟩ = some (.int .i64 ym) := (blk_cell g13_17.out 0).trans rfl
  have q_g13_1 : (w16).cell? ⟨w8.heap.size, 1, none⟩ = some (.slice A13 yl.length c13) := (blk_cell g13_17.out 1).trans rfl
  have q_g15_0 : (w16).cell? ⟨w10.heap.size, 0, none⟩ = some (.int .i64 z0) := (blk_cell g15_17.out 0).trans rfl
  have q_g15_1 : (w16).cell? ⟨w10.heap.size, 1, none⟩ = some (.int .i64 z1) := (blk_cell g15_17.out 1).trans rfl
  have q_g15_2 : (w16).cell? ⟨w10.heap.size, 2, none⟩ = some (.int .i64 z2) := (blk_cell g15_17.out 2).trans rfl
  have q_g17_0 : (w16).cell? ⟨w12.heap.size, 0, none⟩ = some (.int .i64 z0) := (blk_cell g17_17.out 0).trans rfl
  have q_g17_1 : (w16).cell? ⟨w12.heap.size, 1, none⟩ = some (.int .i64 z1) := (blk_cell g17_17.out 1).trans rfl
  have q_g17_2 : (w16).cell? ⟨w12.heap.size, 2, none⟩ = some (.int .i64 z2) := (blk_cell g17_17.out 2).trans rfl
  go_wp2
  refine bodyPost_ret (v := .bool true) (by simp [results, Try.results31, go_sem]) rfl ?_
  exact ⟨rfl, HB17.out⟩
set_option maxRecDepth 100000 in
set_option maxHeartbeats 8000000 in
theorem all_long (A : Option Addr) (c : Nat) (m n a : Int) (l : List Lv) (w : World) (hr : Kd.C k48 w A l.length l) (hc : l.length ≤ c) (hl : l.length > 600) :
    Calls Try.prog 7 #[.agg #[.int .i64 m, .slice A l.length c], .int .i64 n, .int .i64 a] w fun e w' => e = .returned (.bool true) ∧ Below w.heap.size w w' := by
  have hu := Try.underlying48
  have hu2 := Try.underlying41
  have hi := Try.underlying3
  have HR := Sh.mk hr
  have HC := Sh.mk hc
  clear hr hc
  go_enter Try.func7, Try.ntmps7
  have B1 : Sh (Below (w).heap.size (w) ((w.alloc (.cells #[.int .i64 m, .slice A l.length c] 41)))) := ⟨(below_alloc (Below.refl _ _) _)⟩
  have r3C1 := Sh.mk (Kd.C_below HR.out B1.out)
  clear HR
  have HB1 : Sh (Below w.heap.size w ((w.alloc (.cells #[.int .i64 m, .slice A l.length c] 41)))) := B1
  have g3_n1 : Sh (((w.alloc (.cells #[.int .i64 m, .slice A l.length c] 41))).heap[w.heap.size]? = some (.cells #[.int .i64 m, .slice A l.length c] 41 (0, 0))) := ⟨blk_new w _⟩
  have q_g3_0 : ((w.alloc (.cells #[.int .i64 m, .slice A l.length c] 41))).cell? ⟨w.heap.size, 0, none⟩ = some (.int .i64 m) := (blk_cell g3_n1.out 0).trans rfl
  have q_g3_1 : ((w.alloc (.cells #[.int .i64 m, .slice A l.length c] 41))).cell? ⟨w.heap.size, 1, none⟩ = some (.slice A l.length c) := (blk_cell g3_n1.out 1).trans rfl
  have HW := Sh.mk (awake_any ((w.alloc (.cells #[.int .i64 m, .slice A l.length c] 41))))
  go_wp2_with fail
  (with_reducible refine (HW.out).mono ?_); rintro e w2 ⟨rfl, hd⟩
  clear q_g3_0 q_g3_1
  have B3 : Sh (Below ((w.alloc (.cells #[.int .i64 m, .slice A l.length c] 41))).heap.size ((w.alloc (.cells #[.int .i64 m, .slice A l.length c] 41))) (w2)) := ⟨hd⟩
  have g3_3 := Sh.mk (blk_below g3_n1.out B3.out)
  clear g3_n1
  have r3C3 := Sh.mk (Kd.C_below r3C1.out B3.out)
  clear r3C1
  have HB3 : Sh (Below w.heap.size w (w2)) := ⟨below_step HB1.out B3.out⟩
  clear HB1
  clear hd
  go_wp2
  refine bodyPost_ret (v := .bool true) (by simp [results, Try.results7, go_sem]) rfl ?_
  exact ⟨rfl, HB3.out⟩
set_option maxRecDepth 100000 in
set_option maxHeartbeats 8000000 in
theorem all_no (A : Option Addr) (c : Nat) (m n a : Int) (l : List Lv) (w : World) (hr : Kd.C k48 w A l.length l) (hc : l.length ≤ c) (hl : l.length ≤ 600) (hmay : mayL m l = false) :
    Calls Try.prog 7 #[.agg #[.int .i64 m, .slice A l.length c], .int .i64 n, .int .i64 a] w fun e w' => e = .returned (.bool true) ∧ Below w.heap.size w w' := by
  have hu := Try.underlying48
  have hu2 := Try.underlying41
  have hi := Try.underlying3
  have HR := Sh.mk hr
  have HC := Sh.mk hc
  clear hr hc
  have HY := Sh.mk hmay
  clear hmay
  go_enter Try.func7, Try.ntmps7
  have B1 : Sh (Below (w).heap.size (w) ((w.alloc (.cells #[.int .i64 m, .slice A l.length c] 41)))) := ⟨(below_alloc (Below.refl _ _) _)⟩
  have r3C1 := Sh.mk (Kd.C_below HR.out B1.out)
  clear HR
  have HB1 : Sh (Below w.heap.size w ((w.alloc (.cells #[.int .i64 m, .slice A l.length c] 41)))) := B1
  have g3_n1 : Sh (((w.alloc (.cells #[.int .i64 m, .slice A l.length c] 41))).heap[w.heap.size]? = some (.cells #[.int .i64 m, .slice A l.length c] 41 (0, 0))) := ⟨blk_new w _⟩
  have q_g3_0 : ((w.alloc (.cells #[.int .i64 m, .slice A l.length c] 41))).cell? ⟨w.heap.size, 0, none⟩ = some (.int .i64 m) := (blk_cell g3_n1.out 0).trans rfl
  have q_g3_1 : ((w.alloc (.cells #[.int .i64 m, .slice A l.length c] 41))).cell? ⟨w.heap.size, 1, none⟩ = some (.slice A l.length c) := (blk_cell g3_n1.out 1).trans rfl
  have HP1 : ∀ W, Below ((w.alloc (.cells #[.int .i64 m, .slice A l.length c] 41))).heap.size ((w.alloc (.cells #[.int .i64 m, .slice A l.length c] 41))) W → Sh (Calls Try.prog 29 #[.agg #[.int .i64 m, .slice A l.length c]] W fun e w' => e = .returned (.bool false) ∧ Below W.heap.size W w') := fun W hW => ⟨by have h := may_any (m := m) (by omega) (w := W) ⟨A, c, rfl, HC.out, Kd.C_below r3C1.out hW⟩; rw [HY.out] at h; exact h⟩
  have HP2 : ∀ W, Below ((w.alloc (.cells #[.int .i64 m, .slice A l.length c] 41))).heap.size ((w.alloc (.cells #[.int .i64 m, .slice A l.length c] 41))) W → Sh (Calls Try.prog 30 #[.agg #[.int .i64 m, .slice A l.length c]] W fun e w' => e = .returned (.bool false) ∧ Below W.heap.size W w') := fun W hW => ⟨by have h := rmay_anyR (m := m) (by omega) (w := W) ⟨A, c, rfl, HC.out, Kd.C_below r3C1.out hW⟩; rw [HY.out] at h; exact h⟩
  go_wp2_with fail
  go_region_held3 (fun W => W.cell? ⟨w.heap.size, 0, none⟩ = some (.int .i64 m) ∧ W.cell? ⟨w.heap.size, 1, none⟩ = some (.slice A l.length c)) (first | exact ⟨(blk_cell (blk_below (blk_below (blk_drew g3_n1.out) ha) hb) 0).trans rfl, (blk_cell (blk_below (blk_below (blk_drew g3_n1.out) ha) hb) 1).trans rfl⟩ | exact ⟨(blk_cell (blk_below (blk_drew g3_n1.out) ha) 0).trans rfl, (blk_cell (blk_below (blk_drew g3_n1.out) ha) 1).trans rfl⟩ | exact ⟨(blk_cell (blk_drew g3_n1.out) 0).trans rfl, (blk_cell (blk_drew g3_n1.out) 1).trans rfl⟩ | exact ⟨(blk_cell g3_n1.out 0).trans rfl, (blk_cell g3_n1.out 1).trans rfl⟩) (first | (go_at_call 29; (with_reducible refine (HP1 _ (Below.refl _ _).drew).out.mono ?_); rintro e wa ⟨rfl, ha⟩) | (go_at_call 30; (with_reducible refine (HP2 _ (below_step (Below.refl _ _).drew ha)).out.mono ?_); rintro e wb ⟨rfl, hb⟩))
  have B2 : Sh (Below ((w.alloc (.cells #[.int .i64 m, .slice A l.length c] 41))).heap.size ((w.alloc (.cells #[.int .i64 m, .slice A l.length c] 41))) (wb)) := ⟨(below_step (below_step (Below.refl _ _).drew ha) hb)⟩
  have g3_2 := Sh.mk (blk_below g3_n1.out B2.out)
  clear g3_n1
  have r3C2 := Sh.mk (Kd.C_below r3C1.out B2.out)
  clear r3C1
  have HB2 : Sh (Below w.heap.size w (wb)) := ⟨below_step HB1.out B2.out⟩
  clear HB1
  clear q_g3_0 q_g3_1
  have q_g3_0 : (wb).cell? ⟨w.heap.size, 0, none⟩ = some (.int .i64 m) := (blk_cell g3_2.out 0).trans rfl
  have q_g3_1 : (wb).cell? ⟨w.heap.size, 1, none⟩ = some (.slice A l.length c) := (blk_cell g3_2.out 1).trans rfl
  have hq := rmay_anyR (m := m) (by omega) ⟨A, c, rfl, HC.out, r3C2.out⟩
  rw [HY.out] at hq
  have HP3 := Sh.mk hq
  clear hq
  go_wp2_with fail
  (with_reducible refine (HP3.out).mono ?_); rintro e w3 ⟨rfl, hd⟩
  clear q_g3_0 q_g3_1
  have B4 : Sh (Below (wb).heap.size (wb) (w3)) := ⟨hd⟩
  have g3_4 := Sh.mk (blk_below g3_2.out B4.out)
  clear g3_2
  have r3C4 := Sh.mk (Kd.C_below r3C2.out B4.out)
  clear r3C2
  have HB4 : Sh (Below w.heap.size w (w3)) := ⟨below_step HB2.out B4.out⟩
  clear HB2
  clear hd
  have q_g3_0 : (w3).cell? ⟨w.heap.size, 0, none⟩ = some (.int .i64 m) := (blk_cell g3_4.out 0).trans rfl
  have q_g3_1 : (w3).cell? ⟨w.heap.size, 1, none⟩ = some (.slice A l.length c) := (blk_cell g3_4.out 1).trans rfl
  have HW := Sh.mk (awake_any (w3))
  go_wp2_with fail
  (with_reducible refine (HW.out).mono ?_); rintro e w5 ⟨rfl, hd⟩
  clear q_g3_0 q_g3_1
  have B6 : Sh (Below (w3).heap.size (w3) (w5)) := ⟨hd⟩
  have g3_6 := Sh.mk (blk_below g3_4.out B6.out)
  clear g3_4
  have r3C6 := Sh.mk (Kd.C_below r3C4.out B6.out)
  clear r3C4
  have HB6 : Sh (Below w.heap.size w (w5)) := ⟨below_step HB4.out B6.out⟩
  clear HB4
  clear hd
  go_wp2
  refine bodyPost_ret (v := .bool true) (by simp [results, Try.results7, go_sem]) rfl ?_
  exact ⟨rfl, HB6.out⟩
set_option maxRecDepth 100000 in
set_option maxHeartbeats 8000000 in
theorem all_yes (A : Option Addr) (c : Nat) (m n a : Int) (l : List Lv) (w : World) (hr : Kd.C k48 w A l.length l) (hc : l.length ≤ c) (hl : l.length ≤ 600) (hmay : mayL m l = true) :
    Calls Try.prog 7 #[.agg #[.int .i64 m, .slice A l.length c], .int .i64 n, .int .i64 a] w fun e w' => e = .returned (.bool true) ∧ Below w.heap.size w w' := by
  have hu := Try.underlying48
  have hu2 := Try.underlying41
  have hi := Try.underlying3
  have HR := Sh.mk hr
  have HC := Sh.mk hc
  clear hr hc
  have HY := Sh.mk hmay
  obtain ⟨hm, hrt⟩ := (mayL_iff m l).1 hmay
  have HM := Sh.mk hm
  have HRT := Sh.mk hrt
  clear hm hrt
  clear hmay
  go_enter Try.func7, Try.ntmps7
  have B1 : Sh (Below (w).heap.size (w) ((w.alloc (.cells #[.int .i64 m, .slice A l.length c] 41)))) := ⟨(below_alloc (Below.refl _ _) _)⟩
  have r3C1 := Sh.mk (Kd.C_below HR.out B1.out)
  clear HR
  have HB1 : Sh (Below w.heap.size w ((w.alloc (.cells #[.int .i64 m, .slice A l.length c] 41)))) := B1
  have g3_n1 : Sh (((w.alloc (.cells #[.int .i64 m, .slice A l.length c] 41))).heap[w.heap.size]? = some (.cells #[.int .i64 m, .slice A l.length c] 41 (0, 0))) := ⟨blk_new w _⟩
  have q_g3_0 : ((w.alloc (.cells #[.int .i64 m, .slice A l.length c] 41))).cell? ⟨w.heap.size, 0, none⟩ = some (.int .i64 m) := (blk_cell g3_n1.out 0).trans rfl
  have q_g3_1 : ((w.alloc (.cells #[.int .i64 m, .slice A l.length c] 41))).cell? ⟨w.heap.size, 1, none⟩ = some (.slice A l.length c) := (blk_cell g3_n1.out 1).trans rfl
  have HP1 : ∀ W, Below ((w.alloc (.cells #[.int .i64 m, .slice A l.length c] 41))).heap.size ((w.alloc (.cells #[.int .i64 m, .slice A l.length c] 41))) W → Sh (Calls Try.prog 29 #[.agg #[.int .i64 m, .slice A l.length c]] W fun e w' => e = .returned (.bool true) ∧ Below W.heap.size W w') := fun W hW => ⟨by have h := may_any (m := m) (by omega) (w := W) ⟨A, c, rfl, HC.out, Kd.C_below r3C1.out hW⟩; rw [HY.out] at h; exact h⟩
  have HP2 : ∀ W, Below ((w.alloc (.cells #[.int .i64 m, .slice A l.length c] 41))).heap.size ((w.alloc (.cells #[.int .i64 m, .slice A l.length c] 41))) W → Sh (Calls Try.prog 30 #[.agg #[.int .i64 m, .slice A l.length c]] W fun e w' => e = .returned (.bool true) ∧ Below W.heap.size W w') := fun W hW => ⟨by have h := rmay_anyR (m := m) (by omega) (w := W) ⟨A, c, rfl, HC.out, Kd.C_below r3C1.out hW⟩; rw [HY.out] at h; exact h⟩
  go_wp2_with fail
  go_region_held3 (fun W => W.cell? ⟨w.heap.size, 0, none⟩ = some (.int .i64 m) ∧ W.cell? ⟨w.heap.size, 1, none⟩ = some (.slice A l.length c)) (first | exact ⟨(blk_cell (blk_below (blk_below (blk_drew g3_n1.out) ha) hb) 0).trans rfl, (blk_cell (blk_below (blk_below (blk_drew g3_n1.out) ha) hb) 1).trans rfl⟩ | exact ⟨(blk_cell (blk_below (blk_drew g3_n1.out) ha) 0).trans rfl, (blk_cell (blk_below (blk_drew g3_n1.out) ha) 1).trans rfl⟩ | exact ⟨(blk_cell (blk_drew g3_n1.out) 0).trans rfl, (blk_cell (blk_drew g3_n1.out) 1).trans rfl⟩ | exact ⟨(blk_cell g3_n1.out 0).trans rfl, (blk_cell g3_n1.out 1).trans rfl⟩) (first | (go_at_call 29; (with_reducible refine (HP1 _ (Below.refl _ _).drew).out.mono ?_); rintro e wa ⟨rfl, ha⟩) | (go_at_call 30; (with_reducible refine (HP2 _ (below_step (Below.refl _ _).drew ha)).out.mono ?_); rintro e wb ⟨rfl, hb⟩))
  have B2 : Sh (Below ((w.alloc (.cells #[.int .i64 m, .slice A l.length c] 41))).heap.size ((w.alloc (.cells #[.int .i64 m, .slice A l.length c] 41))) (wb)) := ⟨(below_step (below_step (Below.refl _ _).drew ha) hb)⟩
  have g3_2 := Sh.mk (blk_below g3_n1.out B2.out)
  clear g3_n1
  have r3C2 := Sh.mk (Kd.C_below r3C1.out B2.out)
  clear r3C1
  have HB2 : Sh (Below w.heap.size w (wb)) := ⟨below_step HB1.out B2.out⟩
  clear HB1
  clear q_g3_0 q_g3_1
  have q_g3_0 : (wb).cell? ⟨w.heap.size, 0, none⟩ = some (.int .i64 m) := (blk_cell g3_2.out 0).trans rfl
  have q_g3_1 : (wb).cell? ⟨w.heap.size, 1, none⟩ = some (.slice A l.length c) := (blk_cell g3_2.out 1).trans rfl
  have hq := rmay_anyR (m := m) (by omega) ⟨A, c, rfl, HC.out, r3C2.out⟩
  rw [HY.out] at hq
  have HP3 := Sh.mk hq
  clear hq
  go_wp2_with fail
  (with_reducible refine (HP3.out).mono ?_); rintro e w3 ⟨rfl, hd⟩
  clear q_g3_0 q_g3_1
  have B4 : Sh (Below (wb).heap.size (wb) (w3)) := ⟨hd⟩
  have g3_4 := Sh.mk (blk_below g3_2.out B4.out)
  clear g3_2
  have r3C4 := Sh.mk (Kd.C_below r3C2.out B4.out)
  clear r3C2
  have HB4 : Sh (Below w.heap.size w (w3)) := ⟨below_step HB2.out B4.out⟩
  clear HB2
  clear hd
  have q_g3_0 : (w3).cell? ⟨w.heap.size, 0, none⟩ = some (.int .i64 m) := (blk_cell g3_4.out 0).trans rfl
  have q_g3_1 : (w3).cell? ⟨w.heap.size, 1, none⟩ = some (.slice A l.length c) := (blk_cell g3_4.out 1).trans rfl
  have HS := Sh.mk (same_any A c m n a l (w3) r3C4.out HC.out HM.out HRT.out hl)
  go_wp2_with fail
  (with_reducible refine (HS.out).mono ?_); rintro e w5 ⟨rfl, hd⟩
  clear q_g3_0 q_g3_1
  have B6 : Sh (Below (w3).heap.size (w3) (w5)) := ⟨hd⟩
  have g3_6 := Sh.mk (blk_below g3_4.out B6.out)
  clear g3_4
  have r3C6 := Sh.mk (Kd.C_below r3C4.out B6.out)
  clear r3C4
  have HB6 : Sh (Below w.heap.size w (w5)) := ⟨below_step HB4.out B6.out⟩
  clear HB4
  clear hd
  have q_g3_0 : (w5).cell? ⟨w.heap.size, 0, none⟩ = some (.int .i64 m) := (blk_cell g3_6.out 0).trans rfl
  have q_g3_1 : (w5).cell? ⟨w.heap.size, 1, none⟩ = some (.slice A l.length c) := (blk_cell g3_6.out 1).trans rfl
  have HW := Sh.mk (awake_any (w5))
  go_wp2_with fail
  (with_reducible refine (HW.out).mono ?_); rintro e w7 ⟨rfl, hd⟩
  clear q_g3_0 q_g3_1
  have B8 : Sh (Below (w5).heap.size (w5) (w7)) := ⟨hd⟩
  have g3_8 := Sh.mk (blk_below g3_6.out B8.out)
  clear g3_6
  have r3C8 := Sh.mk (Kd.C_below r3C6.out B8.out)
  clear r3C6
  have HB8 : Sh (Below w.heap.size w (w7)) := ⟨below_step HB6.out B8.out⟩
  clear HB6
  clear hd
  go_wp2
  refine bodyPost_ret (v := .bool true) (by simp [results, Try.results7, go_sem]) rfl ?_
  exact ⟨rfl, HB8.out⟩
theorem all_all (w : World) (m : Int) (A : Option Addr) (c : Nat) (l : List Lv) (hr : Kd.C k48 w A l.length l) (hc : l.length ≤ c) (_ : l.length ≤ maxLen) (n : Int) (_ : (Lit.int .i64 n).wf = true) (a : Int) (_ : (Lit.int .i64 a).wf = true) :
    Calls Try.prog 7 #[.agg #[.int .i64 m, .slice A l.length c], .int .i64 n, .int .i64 a] w fun e w' => e = .returned (.bool true) ∧ Below w.heap.size w w' := by
  by_cases hl : l.length ≤ 600
  · cases e : mayL m l with
    | false => exact all_no A c m n a l w hr hc hl e
    | true => exact all_yes A c m n a l w hr hc hl e
  · exact all_long A c m n a l w hr hc (by omega)
end Go.Proofs.Ytflhbakjlbmfbaa
