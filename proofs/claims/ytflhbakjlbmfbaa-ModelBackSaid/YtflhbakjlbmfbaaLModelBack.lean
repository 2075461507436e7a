/- ModelBack's walk. No statement is proved here. -/
import Derived.Test.YtflhbakjlbmfbaaModelMade
namespace Go.Proofs.Ytflhbakjlbmfbaa
set_option linter.unusedVariables false
set_option linter.unusedSimpArgs false
open Go.RowKit Go.Proofs.YtflhbakjlbmfbaaW.PrintWords Go.Proofs.YtflhbakjlbmfbaaW.PrintLast Go.Proofs.YtflhbakjlbmfbaaW.PrintMore Pr Go.Proofs.Ytflhbakjlbmfbaa.Pure

theorem find_ins {b : Lv} {l : List Lv} (h : ∀ x ∈ l, x.f0 ≠ b.f0) : findL b.f0 (insL b l) = some b ∧ delL b.f0 (insL b l) = l ∧ findL b.f0 l = none := by
  induction l with
  | nil => simp [insL, findL, delL]
  | cons x l ih =>
    obtain ⟨h1, h2, h3⟩ := ih (fun y hy => h y (by simp [hy]))
    have hx := h x (by simp)
    unfold insL
    split
    · simp [findL, delL, hx, h1, h2, h3]
    · simp [findL, delL, hx, h3]
theorem back_facts {m : Int} (hm : mOk m) {l : List Lv} (hr : rtL m l) {n a : Int} (h : (allocR m l n a).2.2 = true) :
    ∃ q c, allocR m l n a = (m, q, true) ∧ clsR n = (c, true) ∧ findR q a = (a, c, -1, true) ∧ allocR m q n a = (0, [], false) ∧ freeR m q a = (m, l, 0) ∧ freeR m l a = (0, [], 2) ∧ rtL m q ∧ q.length = l.length + 1 := by
  cases e : allocL m l n a with
  | none => simp [allocR, e] at h
  | some q =>
    obtain ⟨h5, h6⟩ := allocL_rt hm hr e
    unfold allocL at e
    split at e
    · next c =>
      obtain ⟨c1, c2, c3⟩ := c
      cases e
      have hn : ∀ x ∈ l, x.f0 ≠ a := by
        intro x hx ha
        have hx1 := (rtL_lie hr hx).1
        have h1 := (List.any_eq_false.1 c3) x hx
        exact h1 ((lov_is hm hx1 c2).2 ⟨by have := c2.1; dsimp only at *; omega, by have := hx1.1; dsimp only; omega⟩)
      have hf := find_ins (b := ⟨a, cls n, -1⟩) hn
      dsimp only at hf
      obtain ⟨f1, f2, f3⟩ := hf
      refine ⟨_, cls n, by simp [allocR, allocL, c1, c2, c3], by simp [clsR, c1], by simp [findR, f1], ?_, by simp [freeR, f1, f2], by simp [freeR, f3], h5, h6⟩
      have hov : (insL ⟨a, cls n, -1⟩ l).any (liveOver ⟨a, cls n, -1⟩) = true := List.any_eq_true.2 ⟨⟨a, cls n, -1⟩, mem_insL.2 (Or.inl rfl), (lov_is hm c2 c2).2 ⟨by have := c2.1; dsimp only at *; omega, by have := c2.1; dsimp only at *; omega⟩⟩
      simp [allocR, allocL, hov]
    · exact absurd e (by simp)
set_option maxRecDepth 100000 in
set_option maxHeartbeats 8000000 in
theorem back_no (k0 : Nat) (A : Option Addr) (c : Nat) (ns : List Int) (a1 a2 : Int) (m : Int) (l : List Lv) (w : World) (hr : Kd.C (Kd.int .u8) w A ns.length ns) (hc : ns.length ≤ c) (hmade : rickyardlaw13_Made.f k0 ns = some (m, l)) (hm : mOk m) (hrt : rtL m l) (hl : l.length ≤ 900) (h1 : 0 ≤ a1) (h1' : a1 ≤ 65535) (h2 : 0 ≤ a2) (h2' : a2 ≤ 65535)
    (hal : allocR m l (1 + a1 % 4096) (a2 % 512 * 32) = (0, [], false)) :
    Calls Try.prog 4 #[.slice A ns.length c, .int .u16 a1, .int .u16 a2] w fun e w' => e = .returned (.bool true) ∧ Below w.heap.size w w' := by
  have hu := Try.underlying48
  have hu2 := Try.underlying41
  have hi := Try.underlying3
  have HM := Sh.mk hm
  have HRT := Sh.mk hrt
  have t1 : a1.tmod 4096 = a1 % 4096 := Int.tmod_eq_emod_of_nonneg h1
  have t2 : a2.tmod 512 = a2 % 512 := Int.tmod_eq_emod_of_nonneg h2
  obtain ⟨n, hn⟩ : ∃ x, x = 1 + a1 % 4096 := ⟨_, rfl⟩
  obtain ⟨p, hp⟩ : ∃ x, x = a2 % 512 * 32 := ⟨_, rfl⟩
  rw [← hn, ← hp] at hal
  have w1_ : IntKind.i64.wrap a1 = a1 := IntWalk.i64_in _ (by omega)
  have w2_ : IntKind.i64.wrap a2 = a2 := IntWalk.i64_in _ (by omega)
  have hnn : (1 : Int) + a1 % 4096 = n := hn.symm
  have hpp : a2 % 512 * 32 = p := hp.symm
  have HMADE := Sh.mk (rickyardlaw13_Made.calls k0 A c ns m l w hr hc hmade)
  clear hr hm hrt hmade hn hp t1 t2
  have HAL := Sh.mk hal
  clear hal
  go_enter Try.func4, Try.ntmps4
  go_wp2_with fail
  (with_reducible refine (HMADE.out).mono ?_); rintro e w1 ⟨v, rfl, hv, hd⟩
  obtain ⟨A7, c7, rfl, hl7, hC7⟩ := Rd.ofR hv
  clear hv
  have B2 : Sh (Below (w).heap.size (w) ((w1.alloc (.cells #[.int .i64 m, .slice A7 l.length c7] 41)))) := ⟨below_alloc (hd) _⟩
  have HB2 : Sh (Below w.heap.size w ((w1.alloc (.cells #[.int .i64 m, .slice A7 l.length c7] 41)))) := B2
  have g7_n1 : Sh (((w1.alloc (.cells #[.int .i64 m, .slice A7 l.length c7] 41))).heap[w1.heap.size]? = some (.cells #[.int .i64 m, .slice A7 l.length c7] 41 (0, 0))) := ⟨(blk_new w1 _)⟩
  clear hd
  have r7C2 : Sh (Kd.C k48 ((w1.alloc (.cells #[.int .i64 m, .slice A7 l.length c7] 41))) A7 l.length l) := ⟨(Kd.C_alloc hC7 _)⟩
  have r7H := Sh.mk hl7
  clear hC7 hl7
  have q_g7_0 : ((w1.alloc (.cells #[.int .i64 m, .slice A7 l.length c7] 41))).cell? ⟨w1.heap.size, 0, none⟩ = some (.int .i64 m) := (blk_cell g7_n1.out 0).trans rfl
  have q_g7_1 : ((w1.alloc (.cells #[.int .i64 m, .slice A7 l.length c7] 41))).cell? ⟨w1.heap.size, 1, none⟩ = some (.slice A7 l.length c7) := (blk_cell g7_n1.out 1).trans rfl
  have hq := alloc_any HM.out HRT.out (by omega) ⟨A7, c7, rfl, r7H.out, r7C2.out⟩ n p
  rw [HAL.out] at hq
  have HQ := Sh.mk hq
  clear hq
  go_wp2_with fail
  (with_reducible refine (HQ.out).mono ?_); rintro e w3 ⟨u, rfl, hu_, hd⟩
  obtain ⟨A10, c10, rfl, hl10, hC10⟩ := hu_
  clear q_g7_0 q_g7_1
  have B4 : Sh (Below ((w1.alloc (.cells #[.int .i64 m, .slice A7 l.length c7] 41))).heap.size ((w1.alloc (.cells #[.int .i64 m, .slice A7 l.length c7] 41))) ((w3.alloc (.cells #[.int .i64 0, .slice A10 0 c10] 41)))) := ⟨below_alloc (hd) _⟩
  have g7_4 := Sh.mk (blk_below g7_n1.out B4.out)
  clear g7_n1
  have r7C4 := Sh.mk (Kd.C_below r7C2.out B4.out)
  clear r7C2
  have HB4 : Sh (Below w.heap.size w ((w3.alloc (.cells #[.int .i64 0, .slice A10 0 c10] 41)))) := ⟨below_step HB2.out B4.out⟩
  clear HB2
  have g10_n3 : Sh (((w3.alloc (.cells #[.int .i64 0, .slice A10 0 c10] 41))).heap[w3.heap.size]? = some (.cells #[.int .i64 0, .slice A10 0 c10] 41 (0, 0))) := ⟨(blk_new w3 _)⟩
  clear hd
  have q_g7_0 : ((w3.alloc (.cells #[.int .i64 0, .slice A10 0 c10] 41))).cell? ⟨w1.heap.size, 0, none⟩ = some (.int .i64 m) := (blk_cell g7_4.out 0).trans rfl
  have q_g7_1 : ((w3.alloc (.cells #[.int .i64 0, .slice A10 0 c10] 41))).cell? ⟨w1.heap.size, 1, none⟩ = some (.slice A7 l.length c7) := (blk_cell g7_4.out 1).trans rfl
  have q_g10_0 : ((w3.alloc (.cells #[.int .i64 0, .slice A10 0 c10] 41))).cell? ⟨w3.heap.size, 0, none⟩ = some (.int .i64 0) := (blk_cell g10_n3.out 0).trans rfl
  have q_g10_1 : ((w3.alloc (.cells #[.int .i64 0, .slice A10 0 c10] 41))).cell? ⟨w3.heap.size, 1, none⟩ = some (.slice A10 0 c10) := (blk_cell g10_n3.out 1).trans rfl
  have HW := Sh.mk (awake_any ((w3.alloc (.cells #[.int .i64 0, .slice A10 0 c10] 41))))
  go_wp2_with fail
  (with_reducible refine (HW.out).mono ?_); rintro e w5 ⟨rfl, hd⟩
  clear q_g7_0 q_g7_1 q_g10_0 q_g10_1
  have B6 : Sh (Below ((w3.alloc (.cells #[.int .i64 0, .slice A10 0 c10] 41))).heap.size ((w3.alloc (.cells #[.int .i64 0, .slice A10 0 c10] 41))) (w5)) := ⟨hd⟩
  have g7_6 := Sh.mk (blk_below g7_4.out B6.out)
  clear g7_4
  have g10_6 := Sh.mk (blk_below g10_n3.out B6.out)
  clear g10_n3
  have r7C6 := Sh.mk (Kd.C_below r7C4.out B6.out)
  clear r7C4
  have HB6 : Sh (Below w.heap.size w (w5)) := ⟨below_step HB4.out B6.out⟩
  clear HB4
  clear hd
  go_wp2
  refine bodyPost_ret (v := .bool true) (by simp [results, Try.results4, go_sem]) rfl ?_
  exact ⟨rfl, HB6.out⟩
set_option maxRecDepth 100000 in
set_option maxHeartbeats 8000000 in
theorem back_ok (k0 : Nat) (A : Option Addr) (c : Nat) (ns : List Int) (a1 a2 : Int) (m : Int) (l : List Lv) (w : World) (hr : Kd.C (Kd.int .u8) w A ns.length ns) (hc : ns.length ≤ c) (hmade : rickyardlaw13_Made.f k0 ns = some (m, l)) (hm : mOk m) (hrt : rtL m l) (hl : l.length ≤ 900) (h1 : 0 ≤ a1) (h1' : a1 ≤ 65535) (h2 : 0 ≤ a2) (h2' : a2 ≤ 65535)
    (hal : (allocR m l (1 + a1 % 4096) (a2 % 512 * 32)).2.2 = true) :
    Calls Try.prog 4 #[.slice A ns.length c, .int .u16 a1, .int .u16 a2] w fun e w' => e = .returned (.bool true) ∧ Below w.heap.size w w' := by
  have hu := Try.underlying48
  have hu2 := Try.underlying41
  have hi := Try.underlying3
  have HM := Sh.mk hm
  have HRT := Sh.mk hrt
  have t1 : a1.tmod 4096 = a1 % 4096 := Int.tmod_eq_emod_of_nonneg h1
  have t2 : a2.tmod 512 = a2 % 512 := Int.tmod_eq_emod_of_nonneg h2
  obtain ⟨n, hn⟩ : ∃ x, x = 1 + a1 % 4096 := ⟨_, rfl⟩
  obtain ⟨p, hp⟩ : ∃ x, x = a2 % 512 * 32 := ⟨_, rfl⟩
  rw [← hn, ← hp] at hal
  have w1_ : IntKind.i64.wrap a1 = a1 := IntWalk.i64_in _ (by omega)
  have w2_ : IntKind.i64.wrap a2 = a2 := IntWalk.i64_in _ (by omega)
  have hnn : (1 : Int) + a1 % 4096 = n := hn.symm
  have hpp : a2 % 512 * 32 = p := hp.symm
  have HMADE := Sh.mk (rickyardlaw13_Made.calls k0 A c ns m l w hr hc hmade)
  obtain ⟨q, cc, e1, e2, e3, e4, e5, e6, hrq, hlq⟩ := back_facts hm hrt hal
  have E1 := Sh.mk e1
  have E3 := Sh.mk e3
  have E4 := Sh.mk e4
  have E5 := Sh.mk e5
  have E6 := Sh.mk e6
  have HRQ := Sh.mk hrq
  have hql : q.length ≤ 1000 := by omega
  clear hlq
  have HK : ∀ W, Sh (Calls Try.prog 23 #[.int .i64 n] W fun e w' => e = .returned (.tuple #[.int .i64 cc, .bool true]) ∧ Below W.heap.size W w') := fun W => ⟨by
    have h := class_q n W
    rw [e2] at h
    exact h.mono (fun e w' ⟨h1, m', h2⟩ => ⟨h1, by rw [h2]; exact pw_below_drewN (Below.refl _ _) _⟩)⟩
  clear hr hm hrt hmade hn hp t1 t2 hal e1 e2 e3 e4 e5 e6 hrq
  go_enter Try.func4, Try.ntmps4
  go_wp2_with fail
  (with_reducible refine (HMADE.out).mono ?_); rintro e w1 ⟨v, rfl, hv, hd⟩
  obtain ⟨A7, c7, rfl, hl7, hC7⟩ := Rd.ofR hv
  clear hv
  have B2 : Sh (Below (w).heap.size (w) ((w1.alloc (.cells #[.int .i64 m, .slice A7 l.length c7] 41)))) := ⟨below_alloc (hd) _⟩
  have HB2 : Sh (Below w.heap.size w ((w1.alloc (.cells #[.int .i64 m, .slice A7 l.length c7] 41)))) := B2
  have g7_n1 : Sh (((w1.alloc (.cells #[.int .i64 m, .slice A7 l.length c7] 41))).heap[w1.heap.size]? = some (.cells #[.int .i64 m, .slice A7 l.length c7] 41 (0, 0))) := ⟨(blk_new w1 _)⟩
  clear hd
  have r7C2 : Sh (Kd.C k48 ((w1.alloc (.cells #[.int .i64 m, .slice A7 l.length c7] 41))) A7 l.length l) := ⟨(Kd.C_alloc hC7 _)⟩
  have r7H := Sh.mk hl7
  clear hC7 hl7
  have q_g7_0 : ((w1.alloc (.cells #[.int .i64 m, .slice A7 l.length c7] 41))).cell? ⟨w1.heap.size, 0, none⟩ = some (.int .i64 m) := (blk_cell g7_n1.out 0).trans rfl
  have q_g7_1 : ((w1.alloc (.cells #[.int .i64 m, .slice A7 l.length c7] 41))).cell? ⟨w1.heap.size, 1, none⟩ = some (.slice A7 l.length c7) := (blk_cell g7_n1.out 1).trans rfl
  have hq := alloc_any HM.out HRT.out (by omega) ⟨A7, c7, rfl, r7H.out, r7C2.out⟩ n p
  rw [E1.out] at hq
  have HQ := Sh.mk hq
  clear hq
  go_wp2_with fail
  (with_reducible refine (HQ.out).mono ?_); rintro e w3 ⟨u, rfl, hu_, hd⟩
  obtain ⟨A10, c10, rfl, hl10, hC10⟩ := hu_
  clear q_g7_0 q_g7_1
  have B4 : Sh (Below ((w1.alloc (.cells #[.int .i64 m, .slice A7 l.length c7] 41))).heap.size ((w1.alloc (.cells #[.int .i64 m, .slice A7 l.length c7] 41))) ((w3.alloc (.cells #[.int .i64 m, .slice A10 q.length c10] 41)))) := ⟨below_alloc (hd) _⟩
  have g7_4 := Sh.mk (blk_below g7_n1.out B4.out)
  clear g7_n1
  have r7C4 := Sh.mk (Kd.C_below r7C2.out B4.out)
  clear r7C2
  have HB4 : Sh (Below w.heap.size w ((w3.alloc (.cells #[.int .i64 m, .slice A10 q.length c10] 41)))) := ⟨below_step HB2.out B4.out⟩
  clear HB2
  have g10_n3 : Sh (((w3.alloc (.cells #[.int .i64 m, .slice A10 q.length c10] 41))).heap[w3.heap.size]? = some (.cells #[.int .i64 m, .slice A10 q.length c10] 41 (0, 0))) := ⟨(blk_new w3 _)⟩
  clear hd
  have r10C4 : Sh (Kd.C k48 ((w3.alloc (.cells #[.int .i64 m, .slice A10 q.length c10] 41))) A10 q.length q) := ⟨(Kd.C_alloc hC10 _)⟩
  have r10H := Sh.mk hl10
  clear hC10 hl10
  have q_g7_0 : ((w3.alloc (.cells #[.int .i64 m, .slice A10 q.length c10] 41))).cell? ⟨w1.heap.size, 0, none⟩ = some (.int .i64 m) := (blk_cell g7_4.out 0).trans rfl
  have q_g7_1 : ((w3.alloc (.cells #[.int .i64 m, .slice A10 q.length c10] 41))).cell? ⟨w1.heap.size, 1, none⟩ = some (.slice A7 l.length c7) := (blk_cell g7_4.out 1).trans rfl
  have q_g10_0 : ((w3.alloc (.cells #[.int .i64 m, .slice A10 q.length c10] 41))).cell? ⟨w3.heap.size, 0, none⟩ = some (.int .i64 m) := (blk_cell g10_n3.out 0).trans rfl
  have q_g10_1 : ((w3.alloc (.cells #[.int .i64 m, .slice A10 q.length c10] 41))).cell? ⟨w3.heap.size, 1, none⟩ = some (.slice A10 q.length c10) := (blk_cell g10_n3.out 1).trans rfl
  go_wp2_with fail
  (with_reducible refine ((HK (w3.alloc (.cells #[.int .i64 m, .slice A10 q.length c10] 41))).out).mono ?_); rintro e w5 ⟨rfl, hd⟩
  clear q_g7_0 q_g7_1 q_g10_0 q_g10_1
  have B6 : Sh (Below ((w3.alloc (.cells #[.int .i64 m, .slice A10 q.length c10] 41))).heap.size ((w3.alloc (.cells #[.int .i64 m, .slice A10 q.length c10] 41))) (w5)) := ⟨hd⟩
  have g7_6 := Sh.mk (blk_below g7_4.out B6.out)
  clear g7_4
  have g10_6 := Sh.mk (blk_below g10_n3.out B6.out)
  clear g10_n3
  have r7C6 := Sh.mk (Kd.C_below r7C4.out B6.out)
  clear r7C4
  have r10C6 := Sh.mk (Kd.C_below r10C4.out B6.out)
  clear r10C4
  have HB6 : Sh (Below w.heap.size w (w5)) := ⟨below_step HB4.out B6.out⟩
  clear HB4
  clear hd
  have q_g7_0 : (w5).cell? ⟨w1.heap.size, 0, none⟩ = some (.int .i64 m) := (blk_cell g7_6.out 0).trans rfl
  have q_g7_1 : (w5).cell? ⟨w1.heap.size, 1, none⟩ = some (.slice A7 l.length c7) := (blk_cell g7_6.out 1).trans rfl
  have q_g10_0 : (w5).cell? ⟨w3.heap.size, 0, none⟩ = some (.int .i64 m) := (blk_cell g10_6.out 0).trans rfl
  have q_g10_1 : (w5).cell? ⟨w3.heap.size, 1, none⟩ = some (.slice A10 q.length c10) := (blk_cell g10_6.out 1).trans rfl
  have hq := find_any (m := m) HRQ.out (by omega) ⟨A10, c10, rfl, r10H.out, r10C6.out⟩ p
  rw [E3.out] at hq
  have HF := Sh.mk hq
  clear hq
  go_wp2_with fail
  (with_reducible refine (HF.out).mono ?_); rintro e w7 ⟨rfl, hd⟩
  clear q_g7_0 q_g7_1 q_g10_0 q_g10_1
  have B8 : Sh (Below (w5).heap.size (w5) ((w7.alloc (.cells #[.int .i64 p, .int .i64 cc, .int .i64 (-1)] 48)))) := ⟨below_alloc (hd) _⟩
  have g7_8 := Sh.mk (blk_below g7_6.out B8.out)
  clear g7_6
  have g10_8 := Sh.mk (blk_below g10_6.out B8.out)
  clear g10_6
  have r7C8 := Sh.mk (Kd.C_below r7C6.out B8.out)
  clear r7C6
  have r10C8 := Sh.mk (Kd.C_below r10C6.out B8.out)
  clear r10C6
  have HB8 : Sh (Below w.heap.size w ((w7.alloc (.cells #[.int .i64 p, .int .i64 cc, .int .i64 (-1)] 48)))) := ⟨below_step HB6.out B8.out⟩
  clear HB6
  have g14_n7 : Sh (((w7.alloc (.cells #[.int .i64 p, .int .i64 cc, .int .i64 (-1)] 48))).heap[w7.heap.size]? = some (.cells #[.int .i64 p, .int .i64 cc, .int .i64 (-1)] 48 (0, 0))) := ⟨(blk_new w7 _)⟩
  clear hd
  have q_g7_0 : ((w7.alloc (.cells #[.int .i64 p, .int .i64 cc, .int .i64 (-1)] 48))).cell? ⟨w1.heap.size, 0, none⟩ = some (.int .i64 m) := (blk_cell g7_8.out 0).trans rfl
  have q_g7_1 : ((w7.alloc (.cells #[.int .i64 p, .int .i64 cc, .int .i64 (-1)] 48))).cell? ⟨w1.heap.size, 1, none⟩ = some (.slice A7 l.length c7) := (blk_cell g7_8.out 1).trans rfl
  have q_g10_0 : ((w7.alloc (.cells #[.int .i64 p, .int .i64 cc, .int .i64 (-1)] 48))).cell? ⟨w3.heap.size, 0, none⟩ = some (.int .i64 m) := (blk_cell g10_8.out 0).trans rfl
  have q_g10_1 : ((w7.alloc (.cells #[.int .i64 p, .int .i64 cc, .int .i64 (-1)] 48))).cell? ⟨w3.heap.size, 1, none⟩ = some (.slice A10 q.length c10) := (blk_cell g10_8.out 1).trans rfl
  have q_g14_0 : ((w7.alloc (.cells #[.int .i64 p, .int .i64 cc, .int .i64 (-1)] 48))).cell? ⟨w7.heap.size, 0, none⟩ = some (.int .i64 p) := (blk_cell g14_n7.out 0).trans rfl
  have q_g14_1 : ((w7.alloc (.cells #[.int .i64 p, .int .i64 cc, .int .i64 (-1)] 48))).cell? ⟨w7.heap.size, 1, none⟩ = some (.int .i64 cc) := (blk_cell g14_n7.out 1).trans rfl
  have q_g14_2 : ((w7.alloc (.cells #[.int .i64 p, .int .i64 cc, .int .i64 (-1)] 48))).cell? ⟨w7.heap.size, 2, none⟩ = some (.int .i64 (-1)) := (blk_cell g14_n7.out 2).trans rfl
  have hq := alloc_any HM.out HRQ.out (by omega) ⟨A10, c10, rfl, r10H.out, r10C8.out⟩ n p
  rw [E4.out] at hq
  have HR := Sh.mk hq
  clear hq
  go_wp2_with fail
  (with_reducible refine (HR.out).mono ?_); rintro e w9 ⟨u, rfl, hu_, hd⟩
  obtain ⟨A16, c16, rfl, hl16, hC16⟩ := hu_
  clear q_g7_0 q_g7_1 q_g10_0 q_g10_1 q_g14_0 q_g14_1 q_g14_2
  have B10 : Sh (Below ((w7.alloc (.cells #[.int .i64 p, .int .i64 cc, .int .i64 (-1)] 48))).heap.size ((w7.alloc (.cells #[.int .i64 p, .int .i64 cc, .int .i64 (-1)] 48))) ((w9.alloc (.cells #[.int .i64 0, .slice A16 0 c16] 41)))) := ⟨below_alloc (hd) _⟩
  have g7_10 := Sh.mk (blk_below g7_8.out B10.out)
  clear g7_8
  have g10_10 := Sh.mk (blk_below g10_8.out B10.out)
  clear g10_8
  have g14_10 := Sh.mk (blk_below g14_n7.out B10.out)
  clear g14_n7
  have r7C10 := Sh.mk (Kd.C_below r7C8.out B10.out)
  clear r7C8
  have r10C10 := Sh.mk (Kd.C_below r10C8.out B10.out)
  clear r10C8
  have HB10 : Sh (Below w.heap.size w ((w9.alloc (.cells #[.int .i64 0, .slice A16 0 c16] 41)))) := ⟨below_step HB8.out B10.out⟩
  clear HB8
  have g16_n9 : Sh (((w9.alloc (.cells #[.int .i64 0, .slice A16 0 c16] 41))).heap[w9.heap.size]? = some (.cells #[.int .i64 0, .slice A16 0 c16] 41 (0, 0))) := ⟨(blk_new w9 _)⟩
  clear hd
  have q_g7_0 : ((w9.alloc (.cells #[.int .i64 0, .slice A16 0 c16] 41))).cell? ⟨w1.heap.size, 0, none⟩ = some (.int .i64 m) := (blk_cell g7_10.out 0).trans rfl
  have q_g7_1 : ((w9.alloc (.cells #[.int .i64 0, .slice A16 0 c16] 41))).cell? ⟨w1.heap.size, 1, none⟩ = some (.slice A7 l.length c7) := (blk_cell g7_10.out 1).trans rfl
  have q_g10_0 : ((w9.alloc (.cells #[.int .i64 0, .slice A16 0 c16] 41))).cell? ⟨w3.heap.size, 0, none⟩ = some (.int .i64 m) := (blk_cell g10_10.out 0).trans rfl
  have q_g10_1 : ((w9.alloc (.cells #[.int .i64 0, .slice A16 0 c16] 41))).cell? ⟨w3.heap.size, 1, none⟩ = some (.slice A10 q.length c10) := (blk_cell g10_10.out 1).trans rfl
  have q_g14_0 : ((w9.alloc (.cells #[.int .i64 0, .slice A16 0 c16] 41))).cell? ⟨w7.heap.size, 0, none⟩ = some (.int .i64 p) := (blk_cell g14_10.out 0).trans rfl
  have q_g14_1 : ((w9.alloc (.cells #[.int .i64 0, .slice A16 0 c16] 41))).cell? ⟨w7.heap.size, 1, none⟩ = some (.int .i64 cc) := (blk_cell g14_10.out 1).trans rfl
  have q_g14_2 : ((w9.alloc (.cells #[.int .i64 0, .slice A16 0 c16] 41))).cell? ⟨w7.heap.size, 2, none⟩ = some (.int .i64 (-1)) := (blk_cell g14_10.out 2).trans rfl
  have q_g16_0 : ((w9.alloc (.cells #[.int .i64 0, .slice A16 0 c16] 41))).cell? ⟨w9.heap.size, 0, none⟩ = some (.int .i64 0) := (blk_cell g16_n9.out 0).trans rfl
  have q_g16_1 : ((w9.alloc (.cells #[.int .i64 0, .slice A16 0 c16] 41))).cell? ⟨w9.heap.size, 1, none⟩ = some (.slice A16 0 c16) := (blk_cell g16_n9.out 1).trans rfl
  have hq := free_any (m := m) HRQ.out (by omega) ⟨A10, c10, rfl, r10H.out, r10C10.out⟩ p
  rw [E5.out] at hq
  have HG := Sh.mk hq
  clear hq
  go_wp2_with fail
  (with_reducible refine (HG.out).mono ?_); rintro e w11 ⟨u, rfl, hu_, hd⟩
  obtain ⟨A18, c18, rfl, hl18, hC18⟩ := hu_
  clear q_g7_0 q_g7_1 q_g10_0 q_g10_1 q_g14_0 q_g14_1 q_g14_2 q_g16_0 q_g16_1
  have B12 : Sh (Below ((w9.alloc (.cells #[.int .i64 0, .slice A16 0 c16] 41))).heap.size ((w9.alloc (.cells #[.int .i64 0, .slice A16 0 c16] 41))) ((w11.alloc (.cells #[.int .i64 m, .slice A18 l.length c18] 41)))) := ⟨below_alloc (hd) _⟩
  have g7_12 := Sh.mk (blk_below g7_10.out B12.out)
  clear g7_10
  have g10_12 := Sh.mk (blk_below g10_10.out B12.out)
  clear g10_10
  have g14_12 := Sh.mk (blk_below g14_10.out B12.out)
  clear g14_10
  have g16_12 := Sh.mk (blk_below g16_n9.out B12.out)
  clear g16_n9
  have r7C12 := Sh.mk (Kd.C_below r7C10.out B12.out)
  clear r7C10
  have r10C12 := Sh.mk (Kd.C_below r10C10.out B12.out)
  clear r10C10
  have HB12 : Sh (Below w.heap.size w ((w11.alloc (.cells #[.int .i64 m, .slice A18 l.length c18] 41)))) := ⟨below_step HB10.out B12.out⟩
  clear HB10
  have g18_n11 : Sh (((w11.alloc (.cells #[.int .i64 m, .slice A18 l.length c18] 41))).heap[w11.heap.size]? = some (.cells #[.int .i64 m, .slice A18 l.length c18] 41 (0, 0))) := ⟨(blk_new w11 _)⟩
  clear hd
  have r18C12 : Sh (Kd.C k48 ((w11.alloc (.cells #[.int .i64 m, .slice A18 l.length c18] 41))) A18 l.length l) := ⟨(Kd.C_alloc hC18 _)⟩
  have r18H := Sh.mk hl18
  clear hC18 hl18
  have q_g7_0 : ((w11.alloc (.cells #[.int .i64 m, .slice A18 l.length c18] 41))).cell? ⟨w1.heap.size, 0, none⟩ = some (.int .i64 m) := (blk_cell g7_12.out 0).trans rfl
  have q_g7_1 : ((w11.alloc (.cells #[.int .i64 m, .slice A18 l.length c18] 41))).cell? ⟨w1.heap.size, 1, none⟩ = some (.slice A7 l.length c7) := (blk_cell g7_12.out 1).trans rfl
  have q_g10_0 : ((w11.alloc (.cells #[.int .i64 m, .slice A18 l.length c18] 41))).cell? ⟨w3.heap.size, 0, none⟩ = some (.int .i64 m) := (blk_cell g10_12.out 0).trans rfl
  have q_g10_1 : ((w11.alloc (.cells #[.int .i64 m, .slice A18 l.length c18] 41))).cell? ⟨w3.heap.size, 1, none⟩ = some (.slice A10 q.length c10) := (blk_cell g10_12.out 1).trans rfl
  have q_g14_0 : ((w11.alloc (.cells #[.int .i64 m, .slice A18 l.length c18] 41))).cell? ⟨w7.heap.size, 0, none⟩ = some (.int .i64 p) := (blk_cell g14_12.out 0).trans rfl
  have q_g14_1 : ((w11.alloc (.cells #[.int .i64 m, .slice A18 l.length c18] 41))).cell? ⟨w7.heap.size, 1, none⟩ = some (.int .i64 cc) := (blk_cell g14_12.out 1).trans rfl
  have q_g14_2 : ((w11.alloc (.cells #[.int .i64 m, .slice A18 l.length c18] 41))).cell? ⟨w7.heap.size, 2, none⟩ = some (.int .i64 (-1)) := (blk_cell g14_12.out 2).trans rfl
  have q_g16_0 : ((w11.alloc (.cells #[.int .i64 m, .slice A18 l.length c18] 41))).cell? ⟨w9.heap.size, 0, none⟩ = some (.int .i64 0) := (blk_cell g16_12.out 0).trans rfl
  have q_g16_1 : ((w11.alloc (.cells #[.int .i64 m, .slice A18 l.length c18] 41))).cell? ⟨w9.heap.size, 1, none⟩ = some (.slice A16 0 c16) := (blk_cell g16_12.out 1).trans rfl
  have q_g18_0 : ((w11.alloc (.cells #[.int .i64 m, .slice A18 l.length c18] 41))).cell? ⟨w11.heap.size, 0, none⟩ = some (.int .i64 m) := (blk_cell g18_n11.out 0).trans rfl
  have q_g18_1 : ((w11.alloc (.cells #[.int .i64 m, .slice A18 l.length c18] 41))).cell? ⟨w11.heap.size, 1, none⟩ = some (.slice A18 l.length c18) := (blk_cell g18_n11.out 1).trans rfl
  have hq := free_any (m := m) HRT.out (by omega) ⟨A18, c18, rfl, r18H.out, r18C12.out⟩ p
  rw [E6.out] at hq
  have HH := Sh.mk hq
  clear hq
  go_wp2_with fail
  (with_reducible refine (HH.out).mono ?_); rintro e w13 ⟨u, rfl, hu_, hd⟩
  obtain ⟨A20, c20, rfl, hl20, hC20⟩ := hu_
  clear q_g7_0 q_g7_1 q_g10_0 q_g10_1 q_g14_0 q_g14_1 q_g14_2 q_g16_0 q_g16_1 q_g18_0 q_g18_1
  have B14 : Sh (Below ((w11.alloc (.cells #[.int .i64 m, .slice A18 l.length c18] 41))).heap.size ((w11.alloc (.cells #[.int .i64 m, .slice A18 l.length c18] 41))) ((w13.alloc (.cells #[.int .i64 0, .slice A20 0 c20] 41)))) := ⟨below_alloc (hd) _⟩
  have g7_14 := Sh.mk (blk_below g7_12.out B14.out)
  clear g7_12
  have g10_14 := Sh.mk (blk_below g10_12.out B14.out)
  clear g10_12
  have g14_14 := Sh.mk (blk_below g14_12.out B14.out)
  clear g14_12
  have g16_14 := Sh.mk (blk_below g16_12.out B14.out)
  clear g16_12
  have g18_14 := Sh.mk (blk_below g18_n11.out B14.out)
  clear g18_n11
  have r7C14 := Sh.mk (Kd.C_below r7C12.out B14.out)
  clear r7C12
  have r10C14 := Sh.mk (Kd.C_below r10C12.out B14.out)
  clear r10C12
  have r18C14 := Sh.mk (Kd.C_below r18C12.out B14.out)
  clear r18C12
  have HB14 : Sh (Below w.heap.size w ((w13.alloc (.cells #[.int .i64 0, .slice A20 0 c20] 41)))) := ⟨below_step HB12.out B14.out⟩
  clear HB12
  have g20_n13 : Sh (((w13.alloc (.cells #[.int .i64 0, .slice A20 0 c20] 41))).heap[w13.heap.size]? = some (.cells #[.int .i64 0, .slice A20 0 c20] 41 (0, 0))) := ⟨(blk_new w13 _)⟩
  clear hd
  have q_g7_0 : ((w13.alloc (.cells #[.int .i64 0, .slice A20 0 c20] 41))).cell? ⟨w1.heap.size, 0, none⟩ = some (.int .i64 m) := (blk_cell g7_14.out 0).trans rfl
  have q_g7_1 : ((w13.alloc (.cells #[.int .i64 0, .slice A20 0 c20] 41))).cell? ⟨w1.heap.size, 1, none⟩ = some (.slice A7 l.length c7) := (blk_cell g7_14.out 1).trans rfl
  have q_g10_0 : ((w13.alloc (.cells #[.int .i64 0, .slice A20 0 c20] 41))).cell? ⟨w3.heap.size, 0, none⟩ = some (.int .i64 m) := (blk_cell g10_14.out 0).trans rfl
  have q_g10_1 : ((w13.alloc (.cells #[.int .i64 0, .slice A20 0 c20] 41))).cell? ⟨w3.heap.size, 1, none⟩ = some (.slice A10 q.length c10) := (blk_cell g10_14.out 1).trans rfl
  have q_g14_0 : ((w13.alloc (.cells #[.int .i64 0, .slice A20 0 c20] 41))).cell? ⟨w7.heap.size, 0, none⟩ = some (.int .i64 p) := (blk_cell g14_14.out 0).trans rfl
  have q_g14_1 : ((w13.alloc (.cells #[.int .i64 0, .slice A20 0 c20] 41))).cell? ⟨w7.heap.size, 1, none⟩ = some (.int .i64 cc) := (blk_cell g14_14.out 1).trans rfl
  have q_g14_2 : ((w13.alloc (.cells #[.int .i64 0, .slice A20 0 c20] 41))).cell? ⟨w7.heap.size, 2, none⟩ = some (.int .i64 (-1)) := (blk_cell g14_14.out 2).trans rfl
  have q_g16_0 : ((w13.alloc (.cells #[.int .i64 0, .slice A20 0 c20] 41))).cell? ⟨w9.heap.size, 0, none⟩ = some (.int .i64 0) := (blk_cell g16_14.out 0).trans rfl
  have q_g16_1 : ((w13.alloc (.cells #[.int .i64 0, .slice A20 0 c20] 41))).cell? ⟨w9.heap.size, 1, none⟩ = some (.slice A16 0 c16) := (blk_cell g16_14.out 1).trans rfl
  have q_g18_0 : ((w13.alloc (.cells #[.int .i64 0, .slice A20 0 c20] 41))).cell? ⟨w11.heap.size, 0, none⟩ = some (.int .i64 m) := (blk_cell g18_14.out 0).trans rfl
  have q_g18_1 : ((w13.alloc (.cells #[.int .i64 0, .slice A20 0 c20] 41))).cell? ⟨w11.heap.size, 1, none⟩ = some (.slice A18 l.length c18) := (blk_cell g18_14.out 1).trans rfl
  have q_g20_0 : ((w13.alloc (.cells #[.int .i64 0, .slice A20 0 c20] 41))).cell? ⟨w13.heap.size, 0, none⟩ = some (.int .i64 0) := (blk_cell g20_n13.out 0).trans rfl
  have q_g20_1 : ((w13.alloc (.cells #[.int .i64 0, .slice A20 0 c20] 41))).cell? ⟨w13.heap.size, 1, none⟩ = some (.slice A20 0 c20) := (blk_cell g20_n13.out 1).trans rfl
  have hq := samem_any (m := m) (by omega) ⟨A18, c18, rfl, r18H.out, r18C14.out⟩ ⟨A7, c7, rfl, r7H.out, r7C14.out⟩
  have HS := Sh.mk hq
  clear hq
  go_wp2_with fail
  (with_reducible refine (HS.out).mono ?_); rintro e w15 ⟨rfl, hd⟩
  clear q_g7_0 q_g7_1 q_g10_0 q_g10_1 q_g14_0 q_g14_1 q_g14_2 q_g16_0 q_g16_1 q_g18_0 q_g18_1 q_g20_0 q_g20_1
  have B16 : Sh (Below ((w13.alloc (.cells #[.int .i64 0, .slice A20 0 c20] 41))).heap.size ((w13.alloc (.cells #[.int .i64 0, .slice A20 0 c20] 41))) (w15)) := ⟨hd⟩
  have g7_16 := Sh.mk (blk_below g7_14.out B16.out)
  clear g7_14
  have g10_16 := Sh.mk (blk_below g10_14.out B16.out)
  clear g10_14
  have g14_16 := Sh.mk (blk_below g14_14.out B16.out)
  clear g14_14
  have g16_16 := Sh.mk (blk_below g16_14.out B16.out)
  clear g16_14
  have g18_16 := Sh.mk (blk_below g18_14.out B16.out)
  clear g18_14
  have g20_16 := Sh.mk (blk_below g20_n13.out B16.out)
  clear g20_n13
  have r7C16 := Sh.mk (Kd.C_below r7C14.out B16.out)
  clear r7C14
  have r10C16 := Sh.mk (Kd.C_below r10C14.out B16.out)
  clear r10C14
  have r18C16 := Sh.mk (Kd.C_below r18C14.out B16.out)
  clear r18C14
  have HB16 : Sh (Below w.heap.size w (w15)) := ⟨below_step HB14.out B16.out⟩
  clear HB14
  clear hd
  have q_g7_0 : (w15).cell? ⟨w1.heap.size, 0, none⟩ = some (.int .i64 m) := (blk_cell g7_16.out 0).trans rfl
  have q_g7_1 : (w15).cell? ⟨w1.heap.size, 1, none⟩ = some (.slice A7 l.length c7) := (blk_cell g7_16.out 1).trans rfl
  have q_g10_0 : (w15).cell? ⟨w3.heap.size, 0, none⟩ = some (.int .i64 m) := (blk_cell g10_16.out 0).trans rfl
  have q_g10_1 : (w15).cell? ⟨w3.heap.size, 1, none⟩ = some (.slice A10 q.length c10) := (blk_cell g10_16.out 1).trans rfl
  have q_g14_0 : (w15).cell? ⟨w7.heap.size, 0, none⟩ = some (.int .i64 p) := (blk_cell g14_16.out 0).trans rfl
  have q_g14_1 : (w15).cell? ⟨w7.heap.size, 1, none⟩ = some (.int .i64 cc) := (blk_cell g14_16.out 1).trans rfl
  have q_g14_2 : (w15).cell? ⟨w7.heap.size, 2, none⟩ = some (.int .i64 (-1)) := (blk_cell g14_16.out 2).trans rfl
  have q_g16_0 : (w15).cell? ⟨w9.heap.size, 0, none⟩ = some (.int .i64 0) := (blk_cell g16_16.out 0).trans rfl
  have q_g16_1 : (w15).cell? ⟨w9.heap.size, 1, none⟩ = some (.slice A16 0 c16) := (blk_cell g16_16.out 1).trans rfl
  have q_g18_0 : (w15).cell? ⟨w11.heap.size, 0, none⟩ = some (.int .i64 m) := (blk_cell g18_16.out 0).trans rfl
  have q_g18_1 : (w15).cell? ⟨w11.heap.size, 1, none⟩ = some (.slice A18 l.length c18) := (blk_cell g18_16.out 1).trans rfl
  have q_g20_0 : (w15).cell? ⟨w13.heap.size, 0, none⟩ = some (.int .i64 0) := (blk_cell g20_16.out 0).trans rfl
  have q_g20_1 : (w15).cell? ⟨w13.heap.size, 1, none⟩ = some (.slice A20 0 c20) := (blk_cell g20_16.out 1).trans rfl
  have HW := Sh.mk (awake_any (w15))
  go_wp2_with fail
  (with_reducible refine (HW.out).mono ?_); rintro e w17 ⟨rfl, hd⟩
  clear q_g7_0 q_g7_1 q_g10_0 q_g10_1 q_g14_0 q_g14_1 q_g14_2 q_g16_0 q_g16_1 q_g18_0 q_g18_1 q_g20_0 q_g20_1
  have B18 : Sh (Below (w15).heap.size (w15) (w17)) := ⟨hd⟩
  have g7_18 := Sh.mk (blk_below g7_16.out B18.out)
  clear g7_16
  have g10_18 := Sh.mk (blk_below g10_16.out B18.out)
  clear g10_16
  have g14_18 := Sh.mk (blk_below g14_16.out B18.out)
  clear g14_16
  have g16_18 := Sh.mk (blk_below g16_16.out B18.out)
  clear g16_16
  have g18_18 := Sh.mk (blk_below g18_16.out B18.out)
  clear g18_16
  have g20_18 := Sh.mk (blk_below g20_16.out B18.out)
  clear g20_16
  have r7C18 := Sh.mk (Kd.C_below r7C16.out B18.out)
  clear r7C16
  have r10C18 := Sh.mk (Kd.C_below r10C16.out B18.out)
  clear r10C16
  have r18C18 := Sh.mk (Kd.C_below r18C16.out B18.out)
  clear r18C16
  have HB18 : Sh (Below w.heap.size w (w17)) := ⟨below_step HB16.out B18.out⟩
  clear HB16
  clear hd
  go_wp2
  refine bodyPost_ret (v := .bool true) (by simp [results, Try.results4, go_sem]) rfl ?_
  exact ⟨rfl, HB18.out⟩
theorem back_all (w : World) (A : Option Addr) (c : Nat) (ns : List Int) (hr : Kd.C (Kd.int .u8) w A ns.length ns) (hc : ns.length ≤ c) (hw : ∀ x ∈ ns, (Lit.int .u8 x).wf = true) (hn : ns.length ≤ 140737488351232) (a1 : Int) (w1 : (Lit.int .u16 a1).wf = true) (a2 : Int) (w2 : (Lit.int .u16 a2).wf = true) :
    Calls Try.prog 4 #[.slice A ns.length c, .int .u16 a1, .int .u16 a2] w fun e w' => e = .returned (.bool true) ∧ Below w.heap.size w w' := by
  obtain ⟨l, k, hk, hrt, hl⟩ := made_ev ns hw hn
  have h1 := u16_of w1
  have h2 := u16_of w2
  cases e : (allocR 16384 l (1 + a1 % 4096) (a2 % 512 * 32)).2.2 with
  | true => exact back_ok k A c ns a1 a2 16384 l w hr hc hk (by decide) hrt (by omega) h1.1 h1.2 h2.1 h2.2 e
  | false =>
    refine back_no k A c ns a1 a2 16384 l w hr hc hk (by decide) hrt (by omega) h1.1 h1.2 h2.1 h2.2 ?_
    unfold allocR at e ⊢
    split at e
    · exact absurd e (by simp)
    · rfl
end Go.Proofs.Ytflhbakjlbmfbaa
