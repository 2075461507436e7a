/- ModelAccepts' walk. No statement is proved here. -/
import Derived.Test.YtflhbakjlbmfbaaDeedCalls
namespace Go.Proofs.Ytflhbakjlbmfbaa
set_option linter.unusedVariables false
set_option linter.unusedSimpArgs false
open Go.RowKit Go.Proofs.YtflhbakjlbmfbaaW.PrintWords Go.Proofs.YtflhbakjlbmfbaaW.PrintLast Go.Proofs.YtflhbakjlbmfbaaW.PrintMore Pr Go.Proofs.Ytflhbakjlbmfbaa.Pure

set_option maxRecDepth 100000 in
set_option maxHeartbeats 1600000 in
theorem accepts_long (w : World) (a0 : Int) (w0 : (Lit.int .u16 a0).wf = true) (A : Option Addr) (c : Nat) (ns : List Int) (hr : Kd.C (Kd.int .u8) w A ns.length ns) (hc : ns.length ≤ c) (hw : ∀ x ∈ ns, (Lit.int .u8 x).wf = true) (hmax : ns.length ≤ 140737488351232) (AR : Option Addr) (cR : Nat) (raw : List De) (hrR : Kd.C k71 w AR raw.length raw) (hcR : raw.length ≤ cR) (hmR : raw.length ≤ maxLen) (hl : raw.length > 200) :
    Calls Try.prog 9 #[.int .u16 a0, .slice A ns.length c, .slice AR raw.length cR] w fun e w' => e = .returned (.bool true) ∧ Below w.heap.size w w' := by
  have hu := Try.underlying48
  have hu2 := Try.underlying41
  have hi := Try.underlying3
  go_enter Try.func9, Try.ntmps9
  have HW := Sh.mk (awake_any w)
  go_wp2_with fail
  (with_reducible refine (HW.out).mono ?_); rintro e w1 ⟨rfl, hd⟩
  have B2 : Sh (Below (w).heap.size (w) (w1)) := ⟨hd⟩
  have HB2 : Sh (Below w.heap.size w (w1)) := B2
  clear hd
  go_wp2
  refine bodyPost_ret (v := .bool true) (by simp [results, Try.results9, go_sem]) rfl ?_
  exact ⟨rfl, HB2.out⟩
set_option maxRecDepth 100000 in
set_option maxHeartbeats 1600000 in
theorem accepts_short (w : World) (a0 : Int) (w0 : (Lit.int .u16 a0).wf = true) (A : Option Addr) (c : Nat) (ns : List Int) (hr : Kd.C (Kd.int .u8) w A ns.length ns) (hc : ns.length ≤ c) (hw : ∀ x ∈ ns, (Lit.int .u8 x).wf = true) (hmax : ns.length ≤ 140737488351232) (AR : Option Addr) (cR : Nat) (raw : List De) (hrR : Kd.C k71 w AR raw.length raw) (hcR : raw.length ≤ cR) (hmR : raw.length ≤ maxLen) (hl : raw.length ≤ 200) :
    Calls Try.prog 9 #[.int .u16 a0, .slice A ns.length c, .slice AR raw.length cR] w fun e w' => e = .returned (.bool true) ∧ Below w.heap.size w w' := by
  have hu := Try.underlying48
  have hu2 := Try.underlying41
  have hi := Try.underlying3
  have h1 := u16_of w0
  obtain ⟨m, hmm⟩ : ∃ m, m = a0 % 16385 := ⟨_, rfl⟩
  have hm : mOk m := by unfold mOk; omega
  have HM := Sh.mk hm
  obtain ⟨D, hD⟩ : ∃ D, D = deedsG m [] ns 0 := ⟨_, rfl⟩
  have hDl : D.length ≤ 100 := by rw [hD]; exact deeds_len m ns
  have t1 : a0.tmod 16385 = m := by rw [Int.tmod_eq_emod_of_nonneg h1.1]; exact hmm.symm
  have w0_ : IntKind.i64.wrap a0 = a0 := IntWalk.i64_in _ (by omega)
  obtain ⟨L, hL⟩ : ∃ L, L = D ++ raw := ⟨_, rfl⟩
  have hLl : L.length ≤ 300 := by rw [hL, List.length_append]; omega
  obtain ⟨q, n, ok, E⟩ : ∃ q n ok, Sh (accsL m [] L = (q, n, ok)) := ⟨_, _, _, ⟨rfl⟩⟩
  have hq := (accs_rt hm L [] trivial).2
  rw [E.out] at hq
  simp only [List.length_nil] at hq
  have hql : q.length < 9223372036854775807 := by omega
  have HDE := Sh.mk (deeds_any m A c ns w hm hr hc hw hmax)
  rw [← hD] at HDE
  have HRR := Sh.mk hrR
  have HCR := Sh.mk hcR
  have HL := Sh.mk hL
  have hLl2 : D.length + raw.length ≤ 300 := by omega
  clear hq hmm hm hD hr hw hrR hcR hmR hL h1
  go_enter Try.func9, Try.ntmps9
  go_wp2_with fail
  (with_reducible refine (HDE.out).mono ?_); rintro e w1 ⟨v, rfl, hv, hd⟩
  obtain ⟨A7, c7, e7⟩ := Kd.R_slice hv
  subst e7
  have HV := Sh.mk hv
  clear hv
  have B2 : Sh (Below (w).heap.size (w) (w1)) := ⟨hd⟩
  have rRC2 := Sh.mk (Kd.C_below HRR.out B2.out)
  clear HRR
  have HB2 : Sh (Below w.heap.size w (w1)) := B2
  clear hd
  go_wp2_with (first | ((with_reducible refine gate_builtin (b := .append) (xs := #[.tmp 24, .tmp 25]) rfl ?_); at_builtin; refine Kd.R_append_rows k71 (Rr := (k71).K w1) (w0 := w1) w.heap.size rfl (.tmp 24) (.tmp 25) 62 71 (.agg #[(.int .i64 0), (.int .i64 0), (.int .i64 0), (.int .i64 0)]) 32 rfl Try.underlying62 info71 rfl (by decide) (by omega) (.slice A7 D.length c7) D raw AR raw.length cR (fun _ => True) (fun _ => False) rfl rfl ?aO ?aR ?aK (fun _ hk => hk.elim) (fun _ _ => trivial) ?aB ?aS ?aL ?_; (case aO => exact HV.out); (case aR => exact rRC2.out); (case aK => intro x cs h; obtain rfl := k71_open h; exact k71_mkM _ _ _ x); (case aB => exact Below.refl _ _); (case aS => exact HB2.out.size); (case aL => omega); intro v1 w9 ho hd hg hat; rw [← HL.out] at ho; clear hg hat))
  obtain ⟨A8, c8, e8⟩ := Kd.R_slice ho
  subst e8
  have hl8 := (Kd.R_reads' ho).2.1
  have hC8 := (Kd.R_reads' ho).2.2
  clear ho HV
  have HB9 : Sh (Below w.heap.size w w9) := ⟨HB2.out.trans hd⟩
  have r8C := Sh.mk hC8
  have r8H := Sh.mk hl8
  clear hd hC8 hl8 HB2 rRC2
  skip
  (with_reducible refine (new_any m w9).mono ?_); rintro e w4 ⟨rfl, hd⟩
  have B5 : Sh (Below (w9).heap.size (w9) (w4)) := ⟨hd⟩
  have r8C5 := Sh.mk (Kd.C_below r8C.out B5.out)
  clear r8C
  have HB5 : Sh (Below w.heap.size w (w4)) := ⟨below_step HB9.out B5.out⟩
  clear HB9
  clear hd
  have hq := accepts_anyR HM.out (l := []) trivial (by rw [List.length_nil]; omega) (Rd.nil w4) r8C5.out r8H.out
  rw [E.out] at hq
  have HQ := Sh.mk hq
  clear hq
  go_wp2_with fail
  (with_reducible refine (HQ.out).mono ?_); rintro e w6 ⟨u, rfl, hu_, hd⟩
  obtain ⟨A9, c9, rfl, hl9, hC9⟩ := hu_
  have B7 : Sh (Below (w4).heap.size (w4) ((w6.alloc (.cells #[.int .i64 m, .slice A9 q.length c9] 41)))) := ⟨below_alloc (hd) _⟩
  have r8C7 := Sh.mk (Kd.C_below r8C5.out B7.out)
  clear r8C5
  have HB7 : Sh (Below w.heap.size w ((w6.alloc (.cells #[.int .i64 m, .slice A9 q.length c9] 41)))) := ⟨below_step HB5.out B7.out⟩
  clear HB5
  have g9_n6 : Sh (((w6.alloc (.cells #[.int .i64 m, .slice A9 q.length c9] 41))).heap[w6.heap.size]? = some (.cells #[.int .i64 m, .slice A9 q.length c9] 41 (0, 0))) := ⟨(blk_new w6 _)⟩
  clear hd
  have r9C7 : Sh (Kd.C k48 ((w6.alloc (.cells #[.int .i64 m, .slice A9 q.length c9] 41))) A9 q.length q) := ⟨(Kd.C_alloc hC9 _)⟩
  have r9H := Sh.mk hl9
  clear hC9 hl9
  have q_g9_0 : ((w6.alloc (.cells #[.int .i64 m, .slice A9 q.length c9] 41))).cell? ⟨w6.heap.size, 0, none⟩ = some (.int .i64 m) := (blk_cell g9_n6.out 0).trans rfl
  have q_g9_1 : ((w6.alloc (.cells #[.int .i64 m, .slice A9 q.length c9] 41))).cell? ⟨w6.heap.size, 1, none⟩ = some (.slice A9 q.length c9) := (blk_cell g9_n6.out 1).trans rfl
  have hq := raccepts_any m A8 c8 L ((w6.alloc (.cells #[.int .i64 m, .slice A9 q.length c9] 41))) HM.out (by omega) r8C7.out r8H.out
  have HP := Sh.mk hq
  clear hq
  unfold AccPost at HP
  rw [E.out] at HP
  go_wp2_with fail
  (with_reducible refine (HP.out).mono ?_); rintro e w8 ⟨A12, c12, rfl, hl12, hF12, hd⟩
  have hC12 := Kd.F_now hF12
  clear hF12
  clear q_g9_0 q_g9_1
  have B9 : Sh (Below ((w6.alloc (.cells #[.int .i64 m, .slice A9 q.length c9] 41))).heap.size ((w6.alloc (.cells #[.int .i64 m, .slice A9 q.length c9] 41))) ((w8.alloc (.cells #[.int .i64 m, .slice A12 q.length c12] 41)))) := ⟨below_alloc (hd) _⟩
  have g9_9 := Sh.mk (blk_below g9_n6.out B9.out)
  clear g9_n6
  have r8C9 := Sh.mk (Kd.C_below r8C7.out B9.out)
  clear r8C7
  have r9C9 := Sh.mk (Kd.C_below r9C7.out B9.out)
  clear r9C7
  have HB9 : Sh (Below w.heap.size w ((w8.alloc (.cells #[.int .i64 m, .slice A12 q.length c12] 41)))) := ⟨below_step HB7.out B9.out⟩
  clear HB7
  have g12_n8 : Sh (((w8.alloc (.cells #[.int .i64 m, .slice A12 q.length c12] 41))).heap[w8.heap.size]? = some (.cells #[.int .i64 m, .slice A12 q.length c12] 41 (0, 0))) := ⟨(blk_new w8 _)⟩
  clear hd
  have r12C9 : Sh (Kd.C k48 ((w8.alloc (.cells #[.int .i64 m, .slice A12 q.length c12] 41))) A12 q.length q) := ⟨(Kd.C_alloc hC12 _)⟩
  have r12H := Sh.mk hl12
  clear hC12 hl12
  have q_g9_0 : ((w8.alloc (.cells #[.int .i64 m, .slice A12 q.length c12] 41))).cell? ⟨w6.heap.size, 0, none⟩ = some (.int .i64 m) := (blk_cell g9_9.out 0).trans rfl
  have q_g9_1 : ((w8.alloc (.cells #[.int .i64 m, .slice A12 q.length c12] 41))).cell? ⟨w6.heap.size, 1, none⟩ = some (.slice A9 q.length c9) := (blk_cell g9_9.out 1).trans rfl
  have q_g12_0 : ((w8.alloc (.cells #[.int .i64 m, .slice A12 q.length c12] 41))).cell? ⟨w8.heap.size, 0, none⟩ = some (.int .i64 m) := (blk_cell g12_n8.out 0).trans rfl
  have q_g12_1 : ((w8.alloc (.cells #[.int .i64 m, .slice A12 q.length c12] 41))).cell? ⟨w8.heap.size, 1, none⟩ = some (.slice A12 q.length c12) := (blk_cell g12_n8.out 1).trans rfl
  have hq := samem_any (m := m) hql ⟨A9, c9, rfl, r9H.out, r9C9.out⟩ ⟨A12, c12, rfl, r12H.out, r12C9.out⟩
  have HS := Sh.mk hq
  clear hq
  go_wp2_with fail
  (with_reducible refine (HS.out).mono ?_); rintro e w10 ⟨rfl, hd⟩
  clear q_g9_0 q_g9_1 q_g12_0 q_g12_1
  have B11 : Sh (Below ((w8.alloc (.cells #[.int .i64 m, .slice A12 q.length c12] 41))).heap.size ((w8.alloc (.cells #[.int .i64 m, .slice A12 q.length c12] 41))) (w10)) := ⟨hd⟩
  have g9_11 := Sh.mk (blk_below g9_9.out B11.out)
  clear g9_9
  have g12_11 := Sh.mk (blk_below g12_n8.out B11.out)
  clear g12_n8
  have r8C11 := Sh.mk (Kd.C_below r8C9.out B11.out)
  clear r8C9
  have r9C11 := Sh.mk (Kd.C_below r9C9.out B11.out)
  clear r9C9
  have r12C11 := Sh.mk (Kd.C_below r12C9.out B11.out)
  clear r12C9
  have HB11 : Sh (Below w.heap.size w (w10)) := ⟨below_step HB9.out B11.out⟩
  clear HB9
  clear hd
  have q_g9_0 : (w10).cell? ⟨w6.heap.size, 0, none⟩ = some (.int .i64 m) := (blk_cell g9_11.out 0).trans rfl
  have q_g9_1 : (w10).cell? ⟨w6.heap.size, 1, none⟩ = some (.slice A9 q.length c9) := (blk_cell g9_11.out 1).trans rfl
  have q_g12_0 : (w10).cell? ⟨w8.heap.size, 0, none⟩ = some (.int .i64 m) := (blk_cell g12_11.out 0).trans rfl
  have q_g12_1 : (w10).cell? ⟨w8.heap.size, 1, none⟩ = some (.slice A12 q.length c12) := (blk_cell g12_11.out 1).trans rfl
  have HW := Sh.mk (awake_any (w10))
  go_wp2_with fail
  (with_reducible refine (HW.out).mono ?_); rintro e w12 ⟨rfl, hd⟩
  clear q_g9_0 q_g9_1 q_g12_0 q_g12_1
  have B13 : Sh (Below (w10).heap.size (w10) (w12)) := ⟨hd⟩
  have g9_13 := Sh.mk (blk_below g9_11.out B13.out)
  clear g9_11
  have g12_13 := Sh.mk (blk_below g12_11.out B13.out)
  clear g12_11
  have r8C13 := Sh.mk (Kd.C_below r8C11.out B13.out)
  clear r8C11
  have r9C13 := Sh.mk (Kd.C_below r9C11.out B13.out)
  clear r9C11
  have r12C13 := Sh.mk (Kd.C_below r12C11.out B13.out)
  clear r12C11
  have HB13 : Sh (Below w.heap.size w (w12)) := ⟨below_step HB11.out B13.out⟩
  clear HB11
  clear hd
  go_wp2
  refine bodyPost_ret (v := .bool true) (by simp [results, Try.results9, go_sem]) rfl ?_
  exact ⟨rfl, HB13.out⟩
theorem accepts_all (w : World) (a0 : Int) (w0 : (Lit.int .u16 a0).wf = true) (A : Option Addr) (c : Nat) (ns : List Int) (hr : Kd.C (Kd.int .u8) w A ns.length ns) (hc : ns.length ≤ c) (hw : ∀ x ∈ ns, (Lit.int .u8 x).wf = true) (hmax : ns.length ≤ 140737488351232) (AR : Option Addr) (cR : Nat) (raw : List De) (hrR : Kd.C k71 w AR raw.length raw) (hcR : raw.length ≤ cR) (hmR : raw.length ≤ maxLen) :
    Calls Try.prog 9 #[.int .u16 a0, .slice A ns.length c, .slice AR raw.length cR] w fun e w' => e = .returned (.bool true) ∧ Below w.heap.size w w' := by
  by_cases h : raw.length ≤ 200
  · exact accepts_short w a0 w0 A c ns hr hc hw hmax AR cR raw hrR hcR hmR h
  · exact accepts_long w a0 w0 A c ns hr hc hw hmax AR cR raw hrR hcR hmR (by omega)
end Go.Proofs.Ytflhbakjlbmfbaa
