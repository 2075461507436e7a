/- ModelCut's walk. No statement is proved here. -/
import Derived.Test.YtflhbakjlbmfbaaDeedCalls
import Derived.Deep.RegionHeld3
import Derived.IntWalk
namespace Go.Proofs.Ytflhbakjlbmfbaa
set_option linter.unusedVariables false
set_option linter.unusedSimpArgs false
open Go.RowKit Go.Proofs.YtflhbakjlbmfbaaW.PrintWords Go.Proofs.YtflhbakjlbmfbaaW.PrintLast Go.Proofs.YtflhbakjlbmfbaaW.PrintMore Pr Go.Proofs.Ytflhbakjlbmfbaa.Pure

theorem accs_cnt (m : Int) (D : List De) : ∀ l : List Lv, (accsL m l D).2.1 ≤ D.length := by
  induction D with
  | nil => intro l; exact Nat.le_refl _
  | cons d D ih =>
    intro l
    rw [accsL]
    split
    · have := ih (accR m l d).2.1
      rw [List.length_cons]
      dsimp only
      omega
    · exact Nat.zero_le _
set_option maxRecDepth 100000 in
set_option maxHeartbeats 4000000 in
theorem cut_no (A : Option Addr) (c : Nat) (ns : List Int) (a0 a2 : Int) (w : World) (hr : Kd.C (Kd.int .u8) w A ns.length ns) (hc : ns.length ≤ c) (hw : ∀ x ∈ ns, (Lit.int .u8 x).wf = true) (hmax : ns.length ≤ 140737488351232) (h1 : 0 ≤ a0) (h1' : a0 ≤ 65535) (h2 : 0 ≤ a2) (h2' : a2 ≤ 255)
    (m : Int) (hmm : m = a0 % 4097) (D : List De) (hD : D = deedsG m [] ns 0) (K : Nat) (hK : (K : Int) = a2 % ((D.length : Int) + 1)) (q : List Lv) (n : Nat) (he : accsL m [] (D.take K) = (q, n, false)) :
    Calls Try.prog 10 #[.int .u16 a0, .slice A ns.length c, .int .u8 a2] w fun e w' => e = .returned (.bool true) ∧ Below w.heap.size w w' := by
  have hu := Try.underlying48
  have hu2 := Try.underlying41
  have hi := Try.underlying3
  have hm : mOk m := by unfold mOk; omega
  have HM := Sh.mk hm
  have hDl : D.length ≤ 100 := by rw [hD]; exact deeds_len m ns
  have t1 : a0.tmod 4097 = m := by rw [Int.tmod_eq_emod_of_nonneg h1]; exact hmm.symm
  have t2 : a2.tmod ((D.length : Int) + 1) = K := by rw [Int.tmod_eq_emod_of_nonneg h2]; exact hK.symm
  have hKl : K ≤ D.length := by have := Int.emod_lt_of_pos a2 (show (0 : Int) < (D.length : Int) + 1 by omega); omega
  have w0_ : IntKind.i64.wrap a0 = a0 := IntWalk.i64_in _ (by omega)
  have w2_ : IntKind.i64.wrap a2 = a2 := IntWalk.i64_in _ (by omega)
  have w3_ : IntKind.i64.wrap ((D.length : Int) + 1) = (D.length : Int) + 1 := IntWalk.i64_in _ (by omega)
  have d0 : ¬ ((D.length : Int) + 1 = 0) := by omega
  obtain ⟨inf, hinf, hsz⟩ : ∃ i, Try.prog.info? 71 = some i ∧ i.size = 4 := ⟨_, rfl, rfl⟩
  have HTK := accs_cut D K hKl he
  obtain ⟨hq, hql⟩ := accs_rt hm (D.take K) [] trivial
  rw [he] at hq hql
  dsimp only at hq hql
  rw [List.length_take] at hql
  simp only [List.length_nil] at hql
  have hql2 : q.length ≤ 100 := by omega
  have E0 := Sh.mk (HTK.2 rfl)
  have HRQ := Sh.mk hq
  have HE := Sh.mk he
  have HDE := Sh.mk (deeds_anyR hm hr hc hw hmax)
  rw [← hD] at HDE
  clear hq hql he hmm hm hD hK hr hw HTK
  go_enter Try.func10, Try.ntmps10
  go_wp2_with fail
  (with_reducible refine (HDE.out).mono ?_); rintro e w1 ⟨A8, c8, rfl, hl8, hC8, hd⟩
  have B2 : Sh (Below (w).heap.size (w) (w1)) := ⟨hd⟩
  have HB2 : Sh (Below w.heap.size w (w1)) := B2
  clear hd
  have r8C2 : Sh (Kd.C k71 (w1) A8 D.length D) := ⟨hC8⟩
  have r8H := Sh.mk hl8
  clear hC8 hl8
  go_wp2_with fail
  (with_reducible refine (new_any m (w1)).mono ?_); rintro e w3 ⟨rfl, hd⟩
  have B4 : Sh (Below (w1).heap.size (w1) (w3)) := ⟨hd⟩
  have r8C4 := Sh.mk (Kd.C_below r8C2.out B4.out)
  clear r8C2
  have HB4 : Sh (Below w.heap.size w (w3)) := ⟨below_step HB2.out B4.out⟩
  clear HB2
  clear hd
  have hq := accepts_anyR HM.out (l := []) trivial (by simp; omega) (Rd.nil _) r8C4.out r8H.out
  rw [E0.out] at hq
  have HQ := Sh.mk hq
  clear hq
  go_wp2_with fail
  (with_reducible refine (HQ.out).mono ?_); rintro e w5 ⟨u, rfl, hu_, hd⟩
  obtain ⟨A10, c10, rfl, hl10, hC10⟩ := hu_
  have B6 : Sh (Below (w3).heap.size (w3) ((w5.alloc (.cells #[.int .i64 m, .slice A10 q.length c10] 41)))) := ⟨below_alloc (hd) _⟩
  have r8C6 := Sh.mk (Kd.C_below r8C4.out B6.out)
  clear r8C4
  have HB6 : Sh (Below w.heap.size w ((w5.alloc (.cells #[.int .i64 m, .slice A10 q.length c10] 41)))) := ⟨below_step HB4.out B6.out⟩
  clear HB4
  have g10_n5 : Sh (((w5.alloc (.cells #[.int .i64 m, .slice A10 q.length c10] 41))).heap[w5.heap.size]? = some (.cells #[.int .i64 m, .slice A10 q.length c10] 41 (0, 0))) := ⟨(blk_new w5 _)⟩
  clear hd
  have r10C6 : Sh (Kd.C k48 ((w5.alloc (.cells #[.int .i64 m, .slice A10 q.length c10] 41))) A10 q.length q) := ⟨(Kd.C_alloc hC10 _)⟩
  have r10H := Sh.mk hl10
  clear hC10 hl10
  have q_g10_0 : ((w5.alloc (.cells #[.int .i64 m, .slice A10 q.length c10] 41))).cell? ⟨w5.heap.size, 0, none⟩ = some (.int .i64 m) := (blk_cell g10_n5.out 0).trans rfl
  have q_g10_1 : ((w5.alloc (.cells #[.int .i64 m, .slice A10 q.length c10] 41))).cell? ⟨w5.heap.size, 1, none⟩ = some (.slice A10 q.length c10) := (blk_cell g10_n5.out 1).trans rfl
  have hct := cut_to (P := Try.prog) 62 71 .i64 Try.underlying62 hinf A8 D.length c8 (K : Int) (by omega) (by omega) r8H.out
  rw [Int.toNat_natCast] at hct
  have HAC : ∀ W, Below ((w5.alloc (.cells #[.int .i64 m, .slice A10 q.length c10] 41))).heap.size ((w5.alloc (.cells #[.int .i64 m, .slice A10 q.length c10] 41))) W → Sh (Calls Try.prog 35 #[.agg #[.int .i64 m, .slice none 0 0], .slice A8 K c8] W fun e w' => ∃ (A' : Option Addr) (c' : Nat), e = .returned (.tuple #[.agg #[.int .i64 m, .slice A' q.length c'], .int .i64 (n : Nat), .bool false]) ∧ q.length ≤ c' ∧ Kd.F k48 w' (fun k => W.heap.size ≤ k) A' q.length q ∧ Below W.heap.size W w') := fun W hW => ⟨by
    have h := accepts_any m none 0 [] A8 c8 (D.take K) W HM.out trivial (by rw [List.length_take, List.length_nil]; omega) (Kd.C_nil _ _) (Nat.le_refl _) (Kd.C_take (Kd.C_below r8C6.out hW) hKl) (by rw [List.length_take]; have := r8H.out; omega)
    unfold AccPost at h
    rw [HE.out, show (D.take K).length = K by rw [List.length_take]; omega] at h
    exact h⟩
  have HNZ : Sh ((((w5.alloc (.cells #[.int .i64 m, .slice A10 q.length c10] 41))).alloc (.cells #[.int .i64 0, .slice none 0 0] 41)).drew.heap[w5.heap.size + 1]? = some (.cells #[.int .i64 0, .slice none 0 0] 41 (0, 0))) := ⟨by have h := blk_drew (blk_new ((w5.alloc (.cells #[.int .i64 m, .slice A10 q.length c10] 41))) (.cells #[.int .i64 0, .slice none 0 0] 41)); rw [show ((w5.alloc (.cells #[.int .i64 m, .slice A10 q.length c10] 41))).heap.size = w5.heap.size + 1 by simp] at h; exact h⟩
  go_upto_region 5 with fail
  go_cut [13, 14, 15] (fun v13 v14 v15 wc => ∃ (g : Nat) (Ag : Option Addr) (cg : Nat), v13 = .pointer (some ⟨g, 0, none⟩) ∧ v14 = .int .i64 (n : Nat) ∧ v15 = .bool false ∧ Sh (q.length ≤ cg) ∧ Sh (wc.heap[g]? = some (.cells #[.int .i64 m, .slice Ag q.length cg] 41 (0, 0))) ∧ Sh (Kd.C k48 wc Ag q.length q) ∧ Sh (Below ((w5.alloc (.cells #[.int .i64 m, .slice A10 q.length c10] 41))).heap.size ((w5.alloc (.cells #[.int .i64 m, .slice A10 q.length c10] 41))) wc))
  case first =>
    go_region_held3 (fun W => True) (exact trivial) (first | (go_at_call 36; (with_reducible refine (new_any m _).mono ?_); rintro e wa ⟨rfl, ha⟩) | (go_at_call 35; (with_reducible refine (HAC _ (by first | exact below_step (Below.refl _ _).drew ha | exact below_alloc (below_step (Below.refl _ _).drew ha) _ | exact below_step (below_alloc (Below.refl _ _) _).drew ha)).out.mono ?_); rintro e wb ⟨Ag, cg, rfl, hlg, hFg, hb⟩; (first | (have hz : Sh (Below wa.heap.size wa wb) := ⟨hb⟩; have hz3 : Sh (Below ((w5.alloc (.cells #[.int .i64 m, .slice A10 q.length c10] 41))).drew.heap.size ((w5.alloc (.cells #[.int .i64 m, .slice A10 q.length c10] 41))).drew wa) := ⟨ha⟩) | (have hz : Sh (wb.heap[wa.heap.size]? = some (.cells #[.int .i64 0, .slice none 0 0] 41 (0, 0))) := ⟨blk_below (blk_new wa (.cells #[.int .i64 0, .slice none 0 0] 41)) hb⟩; have hc0 : wb.cell? ⟨wa.heap.size, 0, none⟩ = some (.int .i64 0) := (blk_cell hz.out 0).trans rfl; have hc1 : wb.cell? ⟨wa.heap.size, 1, none⟩ = some (.slice none 0 0) := (blk_cell hz.out 1).trans rfl; have hf0 : wb.frozen? ⟨wa.heap.size, 0, none⟩ = false := blk_frozen hz.out 0; have hf1 : wb.frozen? ⟨wa.heap.size, 1, none⟩ = false := blk_frozen hz.out 1) | (have hz : Sh (wb.heap[w5.heap.size + 1]? = some (.cells #[.int .i64 0, .slice none 0 0] 41 (0, 0))) := ⟨blk_below (blk_below HNZ.out ha) hb⟩; have hc0 : wb.cell? ⟨w5.heap.size + 1, 0, none⟩ = some (.int .i64 0) := (blk_cell hz.out 0).trans rfl; have hc1 : wb.cell? ⟨w5.heap.size + 1, 1, none⟩ = some (.slice none 0 0) := (blk_cell hz.out 1).trans rfl; have hf0 : wb.frozen? ⟨w5.heap.size + 1, 0, none⟩ = false := blk_frozen hz.out 0; have hf1 : wb.frozen? ⟨w5.heap.size + 1, 1, none⟩ = false := blk_frozen hz.out 1))))
    · go_wp2
      go_meet
      exact ⟨wb.heap.size, Ag, cg, rfl, rfl, rfl, ⟨hlg⟩, ⟨blk_new wb _⟩, ⟨Kd.C_alloc (Kd.F_now hFg) _⟩, ⟨below_alloc (below_step (below_step (Below.refl _ _).drew ha) hb) _⟩⟩
    · go_wp2
      go_meet
      have hs := (below_step (Below.refl _ _).drew ha).size
      exact ⟨wa.heap.size, Ag, cg, rfl, rfl, rfl, ⟨hlg⟩, ⟨blk_put (blk_put hz.out 0 _ rfl) 1 _ rfl⟩, ⟨Kd.F_now (Kd.F_far (Kd.F_far hFg (fun k hk => by have h5 : (wa.alloc (.cells #[.int .i64 0, .slice none 0 0] 41)).heap.size ≤ k := hk; simp at h5; show k ≠ wa.heap.size; omega) _) (fun k hk => by have h5 : (wa.alloc (.cells #[.int .i64 0, .slice none 0 0] 41)).heap.size ≤ k := hk; simp at h5; show k ≠ wa.heap.size; omega) _)⟩, ⟨below_set (below_set (below_step (below_alloc (below_step (Below.refl _ _).drew ha) _) hb) hs) hs⟩⟩
    · go_wp2
      go_meet
      have hs := ha.size
      simp at hs
      exact ⟨w5.heap.size + 1, Ag, cg, rfl, rfl, rfl, ⟨hlg⟩, ⟨blk_put (blk_put hz.out 0 _ rfl) 1 _ rfl⟩, ⟨Kd.F_now (Kd.F_far (Kd.F_far hFg (fun k hk => by have h5 : wa.heap.size ≤ k := hk; show k ≠ w5.heap.size + 1; omega) _) (fun k hk => by have h5 : wa.heap.size ≤ k := hk; show k ≠ w5.heap.size + 1; omega) _)⟩, ⟨below_set (below_set (below_step (below_step (below_alloc (Below.refl _ _) _).drew ha) hb) (by simp)) (by simp)⟩⟩
  case rest =>
    clear HNZ HAC hct q_g10_0 q_g10_1
    obtain ⟨g13, A13, c13, rfl, rfl, rfl, r13H, g13_, r13_, HWC⟩ := hcut
    obtain ⟨wx, hwx⟩ : ∃ x, x = wc := ⟨_, rfl⟩
    subst hwx
    have B7 : Sh (Below ((w5.alloc (.cells #[.int .i64 m, .slice A10 q.length c10] 41))).heap.size ((w5.alloc (.cells #[.int .i64 m, .slice A10 q.length c10] 41))) (wx)) := ⟨HWC.out⟩
    have g10_7 := Sh.mk (blk_below g10_n5.out B7.out)
    clear g10_n5
    have r8C7 := Sh.mk (Kd.C_below r8C6.out B7.out)
    clear r8C6
    have r10C7 := Sh.mk (Kd.C_below r10C6.out B7.out)
    clear r10C6
    have HB7 : Sh (Below w.heap.size w (wx)) := ⟨below_step HB6.out B7.out⟩
    clear HB6
    have q_g10_0 : (wx).cell? ⟨w5.heap.size, 0, none⟩ = some (.int .i64 m) := (blk_cell g10_7.out 0).trans rfl
    have q_g10_1 : (wx).cell? ⟨w5.heap.size, 1, none⟩ = some (.slice A10 q.length c10) := (blk_cell g10_7.out 1).trans rfl
    have q_g13_0 : (wx).cell? ⟨g13, 0, none⟩ = some (.int .i64 m) := (blk_cell g13_.out 0).trans rfl
    have q_g13_1 : (wx).cell? ⟨g13, 1, none⟩ = some (.slice A13 q.length c13) := (blk_cell g13_.out 1).trans rfl
    have hq := samem_any (m := m) (by omega) ⟨A10, c10, rfl, r10H.out, r10C7.out⟩ ⟨A13, c13, rfl, r13H.out, r13_.out⟩
    have HS := Sh.mk hq
    clear hq
    go_wp2_with fail
    (with_reducible refine (HS.out).mono ?_); rintro e w8 ⟨rfl, hd⟩
    clear q_g10_0 q_g10_1 q_g13_0 q_g13_1
    have B9 : Sh (Below (wx).heap.size (wx) (w8)) := ⟨hd⟩
    have g10_9 := Sh.mk (blk_below g10_7.out B9.out)
    clear g10_7
    have g13_9 := Sh.mk (blk_below g13_.out B9.out)
    clear g13_
    have r8C9 := Sh.mk (Kd.C_below r8C7.out B9.out)
    clear r8C7
    have r10C9 := Sh.mk (Kd.C_below r10C7.out B9.out)
    clear r10C7
    have r13C9 := Sh.mk (Kd.C_below r13_.out B9.out)
    clear r13_
    have HB9 : Sh (Below w.heap.size w (w8)) := ⟨below_step HB7.out B9.out⟩
    clear HB7
    clear hd
    have q_g10_0 : (w8).cell? ⟨w5.heap.size, 0, none⟩ = some (.int .i64 m) := (blk_cell g10_9.out 0).trans rfl
    have q_g10_1 : (w8).cell? ⟨w5.heap.size, 1, none⟩ = some (.slice A10 q.length c10) := (blk_cell g10_9.out 1).trans rfl
    have q_g13_0 : (w8).cell? ⟨g13, 0, none⟩ = some (.int .i64 m) := (blk_cell g13_9.out 0).trans rfl
    have q_g13_1 : (w8).cell? ⟨g13, 1, none⟩ = some (.slice A13 q.length c13) := (blk_cell g13_9.out 1).trans rfl
    have HW := Sh.mk (awake_any (w8))
    go_wp2_with fail
    (with_reducible refine (HW.out).mono ?_); rintro e w10 ⟨rfl, hd⟩
    clear q_g10_0 q_g10_1 q_g13_0 q_g13_1
    have B11 : Sh (Below (w8).heap.size (w8) (w10)) := ⟨hd⟩
    have g10_11 := Sh.mk (blk_below g10_9.out B11.out)
    clear g10_9
    have g13_11 := Sh.mk (blk_below g13_9.out B11.out)
    clear g13_9
    have r8C11 := Sh.mk (Kd.C_below r8C9.out B11.out)
    clear r8C9
    have r10C11 := Sh.mk (Kd.C_below r10C9.out B11.out)
    clear r10C9
    have r13C11 := Sh.mk (Kd.C_below r13C9.out B11.out)
    clear r13C9
    have HB11 : Sh (Below w.heap.size w (w10)) := ⟨below_step HB9.out B11.out⟩
    clear HB9
    clear hd
    go_wp2
    refine bodyPost_ret (v := .bool true) (by simp [results, Try.results10, go_sem]) rfl ?_
    exact ⟨rfl, HB11.out⟩
set_option maxRecDepth 100000 in
set_option maxHeartbeats 4000000 in
theorem cut_yes (A : Option Addr) (c : Nat) (ns : List Int) (a0 a2 : Int) (w : World) (hr : Kd.C (Kd.int .u8) w A ns.length ns) (hc : ns.length ≤ c) (hw : ∀ x ∈ ns, (Lit.int .u8 x).wf = true) (hmax : ns.length ≤ 140737488351232) (h1 : 0 ≤ a0) (h1' : a0 ≤ 65535) (h2 : 0 ≤ a2) (h2' : a2 ≤ 255)
    (m : Int) (hmm : m = a0 % 4097) (D : List De) (hD : D = deedsG m [] ns 0) (K : Nat) (hK : (K : Int) = a2 % ((D.length : Int) + 1)) (q : List Lv) (n : Nat) (he : accsL m [] (D.take K) = (q, n, true)) :
    Calls Try.prog 10 #[.int .u16 a0, .slice A ns.length c, .int .u8 a2] w fun e w' => e = .returned (.bool true) ∧ Below w.heap.size w w' := by
  have hu := Try.underlying48
  have hu2 := Try.underlying41
  have hi := Try.underlying3
  have hm : mOk m := by unfold mOk; omega
  have HM := Sh.mk hm
  have hDl : D.length ≤ 100 := by rw [hD]; exact deeds_len m ns
  have t1 : a0.tmod 4097 = m := by rw [Int.tmod_eq_emod_of_nonneg h1]; exact hmm.symm
  have t2 : a2.tmod ((D.length : Int) + 1) = K := by rw [Int.tmod_eq_emod_of_nonneg h2]; exact hK.symm
  have hKl : K ≤ D.length := by have := Int.emod_lt_of_pos a2 (show (0 : Int) < (D.length : Int) + 1 by omega); omega
  have w0_ : IntKind.i64.wrap a0 = a0 := IntWalk.i64_in _ (by omega)
  have w2_ : IntKind.i64.wrap a2 = a2 := IntWalk.i64_in _ (by omega)
  have w3_ : IntKind.i64.wrap ((D.length : Int) + 1) = (D.length : Int) + 1 := IntWalk.i64_in _ (by omega)
  have d0 : ¬ ((D.length : Int) + 1 = 0) := by omega
  obtain ⟨inf, hinf, hsz⟩ : ∃ i, Try.prog.info? 71 = some i ∧ i.size = 4 := ⟨_, rfl, rfl⟩
  have HTK := accs_cut D K hKl he
  obtain ⟨hq, hql⟩ := accs_rt hm (D.take K) [] trivial
  rw [he] at hq hql
  dsimp only at hq hql
  rw [List.length_take] at hql
  simp only [List.length_nil] at hql
  have hql2 : q.length ≤ 100 := by omega
  obtain ⟨rfl, hall⟩ := HTK.1 rfl
  obtain ⟨q3, n3, ok3, e3⟩ : ∃ q3 n3 ok3, accsL m q (D.drop n) = (q3, n3, ok3) := ⟨_, _, _, rfl⟩
  rw [e3] at hall
  dsimp only at hall
  have hn3 := accs_cnt m (D.drop n) q
  have hq3 := (accs_rt hm (D.drop n) q hq).2
  rw [e3] at hn3 hq3
  dsimp only at hn3 hq3
  rw [List.length_drop] at hn3 hq3
  have hq3l : q3.length ≤ 200 := by omega
  obtain ⟨n0, hn0⟩ : ∃ n0, n0 = n + n3 := ⟨_, rfl⟩
  rw [← hn0] at hall
  have w4_ : IntKind.i64.wrap ((n : Int) + (n3 : Int)) = (n0 : Int) := by rw [IntWalk.i64_in _ (by omega)]; omega
  have E0 := Sh.mk hall
  have E3 := Sh.mk e3
  clear hall e3 hn3 hq3 hn0
  have HRQ := Sh.mk hq
  have HE := Sh.mk he
  have HDE := Sh.mk (deeds_anyR hm hr hc hw hmax)
  rw [← hD] at HDE
  clear hq hql he hmm hm hD hK hr hw HTK
  go_enter Try.func10, Try.ntmps10
  go_wp2_with fail
  (with_reducible refine (HDE.out).mono ?_); rintro e w1 ⟨A8, c8, rfl, hl8, hC8, hd⟩
  have B2 : Sh (Below (w).heap.size (w) (w1)) := ⟨hd⟩
  have HB2 : Sh (Below w.heap.size w (w1)) := B2
  clear hd
  have r8C2 : Sh (Kd.C k71 (w1) A8 D.length D) := ⟨hC8⟩
  have r8H := Sh.mk hl8
  clear hC8 hl8
  go_wp2_with fail
  (with_reducible refine (new_any m (w1)).mono ?_); rintro e w3 ⟨rfl, hd⟩
  have B4 : Sh (Below (w1).heap.size (w1) (w3)) := ⟨hd⟩
  have r8C4 := Sh.mk (Kd.C_below r8C2.out B4.out)
  clear r8C2
  have HB4 : Sh (Below w.heap.size w (w3)) := ⟨below_step HB2.out B4.out⟩
  clear HB2
  clear hd
  have hq := accepts_anyR HM.out (l := []) trivial (by simp; omega) (Rd.nil _) r8C4.out r8H.out
  rw [E0.out] at hq
  have HQ := Sh.mk hq
  clear hq
  go_wp2_with fail
  (with_reducible refine (HQ.out).mono ?_); rintro e w5 ⟨u, rfl, hu_, hd⟩
  obtain ⟨A10, c10, rfl, hl10, hC10⟩ := hu_
  have B6 : Sh (Below (w3).heap.size (w3) ((w5.alloc (.cells #[.int .i64 m, .slice A10 q3.length c10] 41)))) := ⟨below_alloc (hd) _⟩
  have r8C6 := Sh.mk (Kd.C_below r8C4.out B6.out)
  clear r8C4
  have HB6 : Sh (Below w.heap.size w ((w5.alloc (.cells #[.int .i64 m, .slice A10 q3.length c10] 41)))) := ⟨below_step HB4.out B6.out⟩
  clear HB4
  have g10_n5 : Sh (((w5.alloc (.cells #[.int .i64 m, .slice A10 q3.length c10] 41))).heap[w5.heap.size]? = some (.cells #[.int .i64 m, .slice A10 q3.length c10] 41 (0, 0))) := ⟨(blk_new w5 _)⟩
  clear hd
  have r10C6 : Sh (Kd.C k48 ((w5.alloc (.cells #[.int .i64 m, .slice A10 q3.length c10] 41))) A10 q3.length q3) := ⟨(Kd.C_alloc hC10 _)⟩
  have r10H := Sh.mk hl10
  clear hC10 hl10
  have q_g10_0 : ((w5.alloc (.cells #[.int .i64 m, .slice A10 q3.length c10] 41))).cell? ⟨w5.heap.size, 0, none⟩ = some (.int .i64 m) := (blk_cell g10_n5.out 0).trans rfl
  have q_g10_1 : ((w5.alloc (.cells #[.int .i64 m, .slice A10 q3.length c10] 41))).cell? ⟨w5.heap.size, 1, none⟩ = some (.slice A10 q3.length c10) := (blk_cell g10_n5.out 1).trans rfl
  have hct := cut_to (P := Try.prog) 62 71 .i64 Try.underlying62 hinf A8 D.length c8 (n : Int) (by omega) (by omega) r8H.out
  rw [Int.toNat_natCast] at hct
  have HAC : ∀ W, Below ((w5.alloc (.cells #[.int .i64 m, .slice A10 q3.length c10] 41))).heap.size ((w5.alloc (.cells #[.int .i64 m, .slice A10 q3.length c10] 41))) W → Sh (Calls Try.prog 35 #[.agg #[.int .i64 m, .slice none 0 0], .slice A8 n c8] W fun e w' => ∃ (A' : Option Addr) (c' : Nat), e = .returned (.tuple #[.agg #[.int .i64 m, .slice A' q.length c'], .int .i64 (n : Nat), .bool true]) ∧ q.length ≤ c' ∧ Kd.F k48 w' (fun k => W.heap.size ≤ k) A' q.length q ∧ Below W.heap.size W w') := fun W hW => ⟨by
    have h := accepts_any m none 0 [] A8 c8 (D.take n) W HM.out trivial (by rw [List.length_take, List.length_nil]; omega) (Kd.C_nil _ _) (Nat.le_refl _) (Kd.C_take (Kd.C_below r8C6.out hW) hKl) (by rw [List.length_take]; have := r8H.out; omega)
    unfold AccPost at h
    rw [HE.out, show (D.take n).length = n by rw [List.length_take]; omega] at h
    exact h⟩
  have HNZ : Sh ((((w5.alloc (.cells #[.int .i64 m, .slice A10 q3.length c10] 41))).alloc (.cells #[.int .i64 0, .slice none 0 0] 41)).drew.heap[w5.heap.size + 1]? = some (.cells #[.int .i64 0, .slice none 0 0] 41 (0, 0))) := ⟨by have h := blk_drew (blk_new ((w5.alloc (.cells #[.int .i64 m, .slice A10 q3.length c10] 41))) (.cells #[.int .i64 0, .slice none 0 0] 41)); rw [show ((w5.alloc (.cells #[.int .i64 m, .slice A10 q3.length c10] 41))).heap.size = w5.heap.size + 1 by simp] at h; exact h⟩
  go_upto_region 5 with fail
  go_cut [13, 14, 15] (fun v13 v14 v15 wc => ∃ (g : Nat) (Ag : Option Addr) (cg : Nat), v13 = .pointer (some ⟨g, 0, none⟩) ∧ v14 = .int .i64 (n : Nat) ∧ v15 = .bool true ∧ Sh (q.length ≤ cg) ∧ Sh (wc.heap[g]? = some (.cells #[.int .i64 m, .slice Ag q.length cg] 41 (0, 0))) ∧ Sh (Kd.C k48 wc Ag q.length q) ∧ Sh (Below ((w5.alloc (.cells #[.int .i64 m, .slice A10 q3.length c10] 41))).heap.size ((w5.alloc (.cells #[.int .i64 m, .slice A10 q3.length c10] 41))) wc))
  case first =>
    go_region_held3 (fun W => True) (exact trivial) (first | (go_at_call 36; (with_reducible refine (new_any m _).mono ?_); rintro e wa ⟨rfl, ha⟩) | (go_at_call 35; (with_reducible refine (HAC _ (by first | exact below_step (Below.refl _ _).drew ha | exact below_alloc (below_step (Below.refl _ _).drew ha) _ | exact below_step (below_alloc (Below.refl _ _) _).drew ha)).out.mono ?_); rintro e wb ⟨Ag, cg, rfl, hlg, hFg, hb⟩; (first | (have hz : Sh (Below wa.heap.size wa wb) := ⟨hb⟩; have hz3 : Sh (Below ((w5.alloc (.cells #[.int .i64 m, .slice A10 q3.length c10] 41))).drew.heap.size ((w5.alloc (.cells #[.int .i64 m, .slice A10 q3.length c10] 41))).drew wa) := ⟨ha⟩) | (have hz : Sh (wb.heap[wa.heap.size]? = some (.cells #[.int .i64 0, .slice none 0 0] 41 (0, 0))) := ⟨blk_below (blk_new wa (.cells #[.int .i64 0, .slice none 0 0] 41)) hb⟩; have hc0 : wb.cell? ⟨wa.heap.size, 0, none⟩ = some (.int .i64 0) := (blk_cell hz.out 0).trans rfl; have hc1 : wb.cell? ⟨wa.heap.size, 1, none⟩ = some (.slice none 0 0) := (blk_cell hz.out 1).trans rfl; have hf0 : wb.frozen? ⟨wa.heap.size, 0, none⟩ = false := blk_frozen hz.out 0; have hf1 : wb.frozen? ⟨wa.heap.size, 1, none⟩ = false := blk_frozen hz.out 1) | (have hz : Sh (wb.heap[w5.heap.size + 1]? = some (.cells #[.int .i64 0, .slice none 0 0] 41 (0, 0))) := ⟨blk_below (blk_below HNZ.out ha) hb⟩; have hc0 : wb.cell? ⟨w5.heap.size + 1, 0, none⟩ = some (.int .i64 0) := (blk_cell hz.out 0).trans rfl; have hc1 : wb.cell? ⟨w5.heap.size + 1, 1, none⟩ = some (.slice none 0 0) := (blk_cell hz.out 1).trans rfl; have hf0 : wb.frozen? ⟨w5.heap.size + 1, 0, none⟩ = false := blk_frozen hz.out 0; have hf1 : wb.frozen? ⟨w5.heap.size + 1, 1, none⟩ = false := blk_frozen hz.out 1))))
    · go_wp2
      go_meet
      exact ⟨wb.heap.size, Ag, cg, rfl, rfl, rfl, ⟨hlg⟩, ⟨blk_new wb _⟩, ⟨Kd.C_alloc (Kd.F_now hFg) _⟩, ⟨below_alloc (below_step (below_step (Below.refl _ _).drew ha) hb) _⟩⟩
    · go_wp2
      go_meet
      have hs := (below_step (Below.refl _ _).drew ha).size
      exact ⟨wa.heap.size, Ag, cg, rfl, rfl, rfl, ⟨hlg⟩, ⟨blk_put (blk_put hz.out 0 _ rfl) 1 _ rfl⟩, ⟨Kd.F_now (Kd.F_far (Kd.F_far hFg (fun k hk => by have h5 : (wa.alloc (.cells #[.int .i64 0, .slice none 0 0] 41)).heap.size ≤ k := hk; simp at h5; show k ≠ wa.heap.size; omega) _) (fun k hk => by have h5 : (wa.alloc (.cells #[.int .i64 0, .slice none 0 0] 41)).heap.size ≤ k := hk; simp at h5; show k ≠ wa.heap.size; omega) _)⟩, ⟨below_set (below_set (below_step (below_alloc (below_step (Below.refl _ _).drew ha) _) hb) hs) hs⟩⟩
    · go_wp2
      go_meet
      have hs := ha.size
      simp at hs
      exact ⟨w5.heap.size + 1, Ag, cg, rfl, rfl, rfl, ⟨hlg⟩, ⟨blk_put (blk_put hz.out 0 _ rfl) 1 _ rfl⟩, ⟨Kd.F_now (Kd.F_far (Kd.F_far hFg (fun k hk => by have h5 : wa.heap.size ≤ k := hk; show k ≠ w5.heap.size + 1; omega) _) (fun k hk => by have h5 : wa.heap.size ≤ k := hk; show k ≠ w5.heap.size + 1; omega) _)⟩, ⟨below_set (below_set (below_step (below_step (below_alloc (Below.refl _ _) _).drew ha) hb) (by simp)) (by simp)⟩⟩
  case rest =>
    clear HNZ HAC hct q_g10_0 q_g10_1
    obtain ⟨g13, A13, c13, rfl, rfl, rfl, r13H, g13_, r13_, HWC⟩ := hcut
    obtain ⟨wx, hwx⟩ : ∃ x, x = wc := ⟨_, rfl⟩
    subst hwx
    have B7 : Sh (Below ((w5.alloc (.cells #[.int .i64 m, .slice A10 q3.length c10] 41))).heap.size ((w5.alloc (.cells #[.int .i64 m, .slice A10 q3.length c10] 41))) (wx)) := ⟨HWC.out⟩
    have g10_7 := Sh.mk (blk_below g10_n5.out B7.out)
    clear g10_n5
    have r8C7 := Sh.mk (Kd.C_below r8C6.out B7.out)
    clear r8C6
    have r10C7 := Sh.mk (Kd.C_below r10C6.out B7.out)
    clear r10C6
    have HB7 : Sh (Below w.heap.size w (wx)) := ⟨below_step HB6.out B7.out⟩
    clear HB6
    have q_g10_0 : (wx).cell? ⟨w5.heap.size, 0, none⟩ = some (.int .i64 m) := (blk_cell g10_7.out 0).trans rfl
    have q_g10_1 : (wx).cell? ⟨w5.heap.size, 1, none⟩ = some (.slice A10 q3.length c10) := (blk_cell g10_7.out 1).trans rfl
    have q_g13_0 : (wx).cell? ⟨g13, 0, none⟩ = some (.int .i64 m) := (blk_cell g13_.out 0).trans rfl
    have q_g13_1 : (wx).cell? ⟨g13, 1, none⟩ = some (.slice A13 q.length c13) := (blk_cell g13_.out 1).trans rfl
    obtain ⟨A9, hA9⟩ : ∃ A9, A9 = (if c8 = n then A8 else A8.map (·.add (n * 4))) := ⟨_, rfl⟩
    have hct := cut_from (P := Try.prog) 62 71 .i64 Try.underlying62 hinf 4 hsz A8 D.length c8 (n : Int) (by omega) (by omega)
    rw [Int.toNat_natCast, ← hA9] at hct
    have HR9 : Sh (Kd.C k71 (wx) A9 (D.drop n).length (D.drop n)) := ⟨by have h := Kd.C_drop (m := n) (c := c8) r8C7.out hKl r8H.out; rw [hA9]; exact h⟩
    clear hA9
    have HAC : ∀ W, Below (wx).heap.size (wx) W → Sh (Calls Try.prog 35 #[.agg #[.int .i64 m, .slice A13 q.length c13], .slice A9 (D.length - n) (c8 - n)] W fun e w' => ∃ (A' : Option Addr) (c' : Nat), e = .returned (.tuple #[.agg #[.int .i64 m, .slice A' q3.length c'], .int .i64 (n3 : Nat), .bool ok3]) ∧ q3.length ≤ c' ∧ Kd.F k48 w' (fun k => W.heap.size ≤ k) A' q3.length q3 ∧ Below W.heap.size W w') := fun W hW => ⟨by
      have h := accepts_any m A13 c13 q A9 (c8 - n) (D.drop n) W HM.out HRQ.out (by rw [List.length_drop]; omega) (Kd.C_below r13_.out hW) r13H.out (Kd.C_below HR9.out hW) (by rw [List.length_drop]; have := r8H.out; omega)
      unfold AccPost at h
      rw [E3.out, List.length_drop] at h
      exact h⟩
    have HNZ : Sh (((wx).alloc (.cells #[.int .i64 0, .slice none 0 0] 41)).drew.heap[(wx).heap.size]? = some (.cells #[.int .i64 0, .slice none 0 0] 41 (0, 0))) := ⟨blk_drew (blk_new (wx) (.cells #[.int .i64 0, .slice none 0 0] 41))⟩
    go_upto_region 8 with fail
    go_cut [16, 17, 18] (fun v16 v17 v18 we => ∃ (g : Nat) (Ag : Option Addr) (cg : Nat), v16 = .pointer (some ⟨g, 0, none⟩) ∧ v17 = .int .i64 (n3 : Nat) ∧ v18 = .bool ok3 ∧ Sh (q3.length ≤ cg) ∧ Sh (we.heap[g]? = some (.cells #[.int .i64 m, .slice Ag q3.length cg] 41 (0, 0))) ∧ Sh (Kd.C k48 we Ag q3.length q3) ∧ Sh (Below (wx).heap.size (wx) we))
    case first =>
      go_region_held3 (fun W => W.cell? ⟨g13, 0, none⟩ = some (.int .i64 m) ∧ W.cell? ⟨g13, 1, none⟩ = some (.slice A13 q.length c13)) (first | exact ⟨(blk_cell ((blk_drew g13_.out)) 0).trans rfl, (blk_cell ((blk_drew g13_.out)) 1).trans rfl⟩ | exact ⟨(blk_cell (g13_.out) 0).trans rfl, (blk_cell (g13_.out) 1).trans rfl⟩ | exact ⟨(blk_cell ((blk_drew (blk_alloc g13_.out _))) 0).trans rfl, (blk_cell ((blk_drew (blk_alloc g13_.out _))) 1).trans rfl⟩ | exact ⟨(blk_cell (blk_alloc g13_.out _) 0).trans rfl, (blk_cell (blk_alloc g13_.out _) 1).trans rfl⟩ | exact ⟨(blk_cell (blk_below (blk_drew g13_.out) hb) 0).trans rfl, (blk_cell (blk_below (blk_drew g13_.out) hb) 1).trans rfl⟩ | exact ⟨(blk_cell (blk_below (blk_drew (blk_alloc g13_.out _)) hb) 0).trans rfl, (blk_cell (blk_below (blk_drew (blk_alloc g13_.out _)) hb) 1).trans rfl⟩ | exact ⟨(blk_cell (blk_alloc (blk_below (blk_drew g13_.out) hb) _) 0).trans rfl, (blk_cell (blk_alloc (blk_below (blk_drew g13_.out) hb) _) 1).trans rfl⟩ | exact ⟨(blk_cell (blk_far (blk_below (blk_drew (blk_alloc g13_.out _)) hb) (Nat.ne_of_lt (blk_lt g13_.out)) _) 0).trans rfl, (blk_cell (blk_far (blk_below (blk_drew (blk_alloc g13_.out _)) hb) (Nat.ne_of_lt (blk_lt g13_.out)) _) 1).trans rfl⟩ | exact ⟨(blk_cell (blk_far (blk_far (blk_below (blk_drew (blk_alloc g13_.out _)) hb) (Nat.ne_of_lt (blk_lt g13_.out)) _) (Nat.ne_of_lt (blk_lt g13_.out)) _) 0).trans rfl, (blk_cell (blk_far (blk_far (blk_below (blk_drew (blk_alloc g13_.out _)) hb) (Nat.ne_of_lt (blk_lt g13_.out)) _) (Nat.ne_of_lt (blk_lt g13_.out)) _) 1).trans rfl⟩) (first | (go_at_call 35; (with_reducible refine (HAC _ (by first | exact (Below.refl _ _).drew | exact (below_alloc (Below.refl _ _) _).drew)).out.mono ?_); rintro e wb ⟨Ag, cg, rfl, hlg, hFg, hb⟩; (first | (have hz : Sh (Below (wx).drew.heap.size (wx).drew wb) := ⟨hb⟩) | (have hz : Sh (wb.heap[(wx).heap.size]? = some (.cells #[.int .i64 0, .slice none 0 0] 41 (0, 0))) := ⟨blk_below HNZ.out hb⟩; have hc0 : wb.cell? ⟨(wx).heap.size, 0, none⟩ = some (.int .i64 0) := (blk_cell hz.out 0).trans rfl; have hc1 : wb.cell? ⟨(wx).heap.size, 1, none⟩ = some (.slice none 0 0) := (blk_cell hz.out 1).trans rfl; have hf0 : wb.frozen? ⟨(wx).heap.size, 0, none⟩ = false := blk_frozen hz.out 0; have hf1 : wb.frozen? ⟨(wx).heap.size, 1, none⟩ = false := blk_frozen hz.out 1))))
      · go_wp2
        go_meet
        exact ⟨wb.heap.size, Ag, cg, rfl, rfl, rfl, ⟨hlg⟩, ⟨blk_new wb _⟩, ⟨Kd.C_alloc (Kd.F_now hFg) _⟩, ⟨below_alloc (below_step (Below.refl _ _).drew hb) _⟩⟩
      · go_wp2
        go_meet
        have hs : (wx).heap.size ≤ (wx).heap.size := Nat.le_refl _
        exact ⟨(wx).heap.size, Ag, cg, rfl, rfl, rfl, ⟨hlg⟩, ⟨blk_put (blk_put hz.out 0 _ rfl) 1 _ rfl⟩, ⟨Kd.F_now (Kd.F_far (Kd.F_far hFg (fun k hk => by have h5 : ((wx).alloc (.cells #[.int .i64 0, .slice none 0 0] 41)).drew.heap.size ≤ k := hk; simp at h5; show k ≠ (wx).heap.size; omega) _) (fun k hk => by have h5 : ((wx).alloc (.cells #[.int .i64 0, .slice none 0 0] 41)).drew.heap.size ≤ k := hk; simp at h5; show k ≠ (wx).heap.size; omega) _)⟩, ⟨below_set (below_set (below_step (below_alloc (Below.refl _ _) _).drew hb) hs) hs⟩⟩
    case rest =>
      clear HNZ HAC hct q_g10_0 q_g10_1 q_g13_0 q_g13_1
      obtain ⟨g16, A16, c16, rfl, rfl, rfl, r16H, g16_, r16_, HWD⟩ := hcut
      skip
      have B8 : Sh (Below (wx).heap.size (wx) (wc)) := ⟨HWD.out⟩
      have g10_8 := Sh.mk (blk_below g10_7.out B8.out)
      clear g10_7
      have g13_8 := Sh.mk (blk_below g13_.out B8.out)
      clear g13_
      have r8C8 := Sh.mk (Kd.C_below r8C7.out B8.out)
      clear r8C7
      have r10C8 := Sh.mk (Kd.C_below r10C7.out B8.out)
      clear r10C7
      have r13C8 := Sh.mk (Kd.C_below r13_.out B8.out)
      clear r13_
      have HB8 : Sh (Below w.heap.size w (wc)) := ⟨below_step HB7.out B8.out⟩
      clear HB7
      have q_g10_0 : (wc).cell? ⟨w5.heap.size, 0, none⟩ = some (.int .i64 m) := (blk_cell g10_8.out 0).trans rfl
      have q_g10_1 : (wc).cell? ⟨w5.heap.size, 1, none⟩ = some (.slice A10 q3.length c10) := (blk_cell g10_8.out 1).trans rfl
      have q_g13_0 : (wc).cell? ⟨g13, 0, none⟩ = some (.int .i64 m) := (blk_cell g13_8.out 0).trans rfl
      have q_g13_1 : (wc).cell? ⟨g13, 1, none⟩ = some (.slice A13 q.length c13) := (blk_cell g13_8.out 1).trans rfl
      have q_g16_0 : (wc).cell? ⟨g16, 0, none⟩ = some (.int .i64 m) := (blk_cell g16_.out 0).trans rfl
      have q_g16_1 : (wc).cell? ⟨g16, 1, none⟩ = some (.slice A16 q3.length c16) := (blk_cell g16_.out 1).trans rfl
      have hq := samem_any (m := m) (by omega) ⟨A10, c10, rfl, r10H.out, r10C8.out⟩ ⟨A16, c16, rfl, r16H.out, r16_.out⟩
      have HS := Sh.mk hq
      clear hq
      go_wp2_with fail
      (with_reducible refine (HS.out).mono ?_); rintro e w9 ⟨rfl, hd⟩
      clear q_g10_0 q_g10_1 q_g13_0 q_g13_1 q_g16_0 q_g16_1
      have B10 : Sh (Below (wc).heap.size (wc) (w9)) := ⟨hd⟩
      have g10_10 := Sh.mk (blk_below g10_8.out B10.out)
      clear g10_8
      have g13_10 := Sh.mk (blk_below g13_8.out B10.out)
      clear g13_8
      have g16_10 := Sh.mk (blk_below g16_.out B10.out)
      clear g16_
      have r8C10 := Sh.mk (Kd.C_below r8C8.out B10.out)
      clear r8C8
      have r10C10 := Sh.mk (Kd.C_below r10C8.out B10.out)
      clear r10C8
      have r13C10 := Sh.mk (Kd.C_below r13C8.out B10.out)
      clear r13C8
      have r16C10 := Sh.mk (Kd.C_below r16_.out B10.out)
      clear r16_
      have HB10 : Sh (Below w.heap.size w (w9)) := ⟨below_step HB8.out B10.out⟩
      clear HB8
      clear hd
      have q_g10_0 : (w9).cell? ⟨w5.heap.size, 0, none⟩ = some (.int .i64 m) := (blk_cell g10_10.out 0).trans rfl
      have q_g10_1 : (w9).cell? ⟨w5.heap.size, 1, none⟩ = some (.slice A10 q3.length c10) := (blk_cell g10_10.out 1).trans rfl
      have q_g13_0 : (w9).cell? ⟨g13, 0, none⟩ = some (.int .i64 m) := (blk_cell g13_10.out 0).trans rfl
      have q_g13_1 : (w9).cell? ⟨g13, 1, none⟩ = some (.slice A13 q.length c13) := (blk_cell g13_10.out 1).trans rfl
      have q_g16_0 : (w9).cell? ⟨g16, 0, none⟩ = some (.int .i64 m) := (blk_cell g16_10.out 0).trans rfl
      have q_g16_1 : (w9).cell? ⟨g16, 1, none⟩ = some (.slice A16 q3.length c16) := (blk_cell g16_10.out 1).trans rfl
      have HW := Sh.mk (awake_any (w9))
      go_wp2_with fail
      (with_reducible refine (HW.out).mono ?_); rintro e w11 ⟨rfl, hd⟩
      clear q_g10_0 q_g10_1 q_g13_0 q_g13_1 q_g16_0 q_g16_1
      have B12 : Sh (Below (w9).heap.size (w9) (w11)) := ⟨hd⟩
      have g10_12 := Sh.mk (blk_below g10_10.out B12.out)
      clear g10_10
      have g13_12 := Sh.mk (blk_below g13_10.out B12.out)
      clear g13_10
      have g16_12 := Sh.mk (blk_below g16_10.out B12.out)
      clear g16_10
      have r8C12 := Sh.mk (Kd.C_below r8C10.out B12.out)
      clear r8C10
      have r10C12 := Sh.mk (Kd.C_below r10C10.out B12.out)
      clear r10C10
      have r13C12 := Sh.mk (Kd.C_below r13C10.out B12.out)
      clear r13C10
      have r16C12 := Sh.mk (Kd.C_below r16C10.out B12.out)
      clear r16C10
      have HB12 : Sh (Below w.heap.size w (w11)) := ⟨below_step HB10.out B12.out⟩
      clear HB10
      clear hd
      go_wp2
      refine bodyPost_ret (v := .bool true) (by simp [results, Try.results10, go_sem]) rfl ?_
      exact ⟨rfl, HB12.out⟩
theorem cut_all (w : World) (a0 : Int) (w0 : (Lit.int .u16 a0).wf = true) (A : Option Addr) (c : Nat) (ns : List Int) (hr : Kd.C (Kd.int .u8) w A ns.length ns) (hc : ns.length ≤ c) (hw : ∀ x ∈ ns, (Lit.int .u8 x).wf = true) (hmax : ns.length ≤ 140737488351232) (a2 : Int) (w2 : (Lit.int .u8 a2).wf = true) :
    Calls Try.prog 10 #[.int .u16 a0, .slice A ns.length c, .int .u8 a2] w fun e w' => e = .returned (.bool true) ∧ Below w.heap.size w w' := by
  have h1 := u16_of w0
  have h2 := u8_of w2
  obtain ⟨D, hD⟩ : ∃ D, D = deedsG (a0 % 4097) [] ns 0 := ⟨_, rfl⟩
  have hp : (0 : Int) < (D.length : Int) + 1 := by omega
  obtain ⟨K, hK⟩ : ∃ K : Nat, (K : Int) = a2 % ((D.length : Int) + 1) := ⟨(a2 % ((D.length : Int) + 1)).toNat, by have := Int.emod_nonneg a2 (show (D.length : Int) + 1 ≠ 0 by omega); omega⟩
  obtain ⟨q, n, ok, e⟩ : ∃ q n ok, accsL (a0 % 4097) [] (D.take K) = (q, n, ok) := ⟨_, _, _, rfl⟩
  cases ok with
  | false => exact cut_no A c ns a0 a2 w hr hc hw hmax h1.1 h1.2 h2.1 h2.2 _ rfl D hD K hK q n e
  | true => exact cut_yes A c ns a0 a2 w hr hc hw hmax h1.1 h1.2 h2.1 h2.2 _ rfl D hD K hK q n e
end Go.Proofs.Ytflhbakjlbmfbaa
