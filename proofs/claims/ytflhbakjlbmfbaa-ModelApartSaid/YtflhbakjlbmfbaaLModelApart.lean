/- ModelApart's walk. No statement is proved here. -/
import Derived.Test.YtflhbakjlbmfbaaDeedCalls
import Derived.Test.YtflhbakjlbmfbaaMayCalls
import Derived.IntWalk
namespace Go.Proofs.Ytflhbakjlbmfbaa
set_option linter.unusedVariables false
set_option linter.unusedSimpArgs false
open Go.RowKit Go.Proofs.YtflhbakjlbmfbaaW.PrintWords Go.Proofs.YtflhbakjlbmfbaaW.PrintLast Go.Proofs.YtflhbakjlbmfbaaW.PrintMore Pr Go.Proofs.Ytflhbakjlbmfbaa.Pure

theorem insL_own {b : Lv} {l : List Lv} (hb : b.f2 = -1) (h : ∀ x ∈ l, x.f2 = -1) : ∀ x ∈ insL b l, x.f2 = -1 := by
 intro x hx
 rcases mem_insL.1 hx with rfl | hx
 ·exact hb
 ·exact h x hx
theorem accs_own (m : Int) (D : List De) : ∀ l : List Lv, (∀ x ∈ l, x.f2 = -1) → ∀ x ∈ (accsL m l D).1, x.f2 = -1 := by
 induction D with
 | nil => intro l h; exact h
 | cons d D ih =>
  intro l h
  rw [accsL]
  split
  ·refine ih _ ?_
   unfold accR
   split
   ·unfold allocR allocL
    split
    ·next e =>
     split at e
     ·cases e; exact insL_own rfl h
     ·cases e
    ·intro x hx; cases hx
   ·split
    ·exact h
    ·split
     ·exact h
     ·split
      ·unfold freeR
       split
       ·exact fun x hx => h x (mem_delL hx)
       ·intro x hx; cases hx
      ·split
       ·exact h
       ·exact h
  ·exact h
/-- From there on nothing is taken. -/
def clearB (bs : List Bool) (e : Int) : Prop := ∀ k : Int, e ≤ k → 0 ≤ k → rdOf false bs k = false
theorem clear_new (n : Nat) (e : Int) : clearB (List.replicate n false) e := by
 intro k _ _
 unfold rdOf
 rw [List.getD_eq_getElem?_getD, List.getElem?_replicate]
 split <;> rfl
theorem clear_le {bs : List Bool} {e e' : Int} (h : clearB bs e) (h' : e ≤ e') : clearB bs e' := fun k h1 h2 => h k (by omega) h2
theorem clear_set {bs : List Bool} {k : Int} (h : clearB bs k) (h0 : 0 ≤ k) : clearB (bs.set k.toNat true) (k + 1) := by
 intro j h1 h2
 have hj := h j (by omega) h2
 unfold rdOf at hj ⊢
 rw [List.getD_eq_getElem?_getD] at hj ⊢
 rw [List.getElem?_set_ne (by omega)]
 exact hj
/-- The row of marks, in a world. -/
structure AP (wB : World) (g cap M : Nat) (bs : List Bool) (W : World) : Prop where
 bl : Below wB.heap.size wB W
 hs : Kd.bool.R 4 W wB.heap.size (fun _ => True) (.slice (some ⟨g, 0, none⟩) M cap) bs
 hg : wB.heap.size ≤ g
 ht : g < W.heap.size
 hl : bs.length = M
theorem AP.below {wB W W' : World} {g cap M : Nat} {bs : List Bool} (h : AP wB g cap M bs W) (hb : Below W.heap.size W W') : AP wB g cap M bs W' := ⟨below_step h.bl hb, Kd.R_below h.hs hb, h.hg, Nat.lt_of_lt_of_le h.ht hb.size, h.hl⟩
theorem AP.set {wB W : World} {g cap M : Nat} {bs : List Bool} (h : AP wB g cap M bs W) (k : Int) : AP wB g cap M (bs.set k.toNat true) (W.setCell ⟨g, k.toNat, none⟩ (.bool true)) :=
 ⟨below_set h.bl h.hg, Kd.R_putn (enc := Value.bool) (h1 := fun _ => rfl) h.hs k true, h.hg, by simpa using h.ht, by rw [List.length_set]; exact h.hl⟩
theorem AP.cell {wB W : World} {g cap M : Nat} {bs : List Bool} (h : AP wB g cap M bs W) (k : Int) (h0 : 0 ≤ k) (h1 : k < M) : W.cell? ⟨g, k.toNat, none⟩ = some (.bool (rdOf false bs k)) ∧ W.frozen? ⟨g, k.toNat, none⟩ = false := by
 have h2 := h.hs
 rw [← h.hl] at h2
 exact Kd.R_cell (enc := Value.bool) (h1 := fun _ => rfl) false h2 k h0 (by rw [h.hl]; exact h1)
theorem rtL_get {m : Int} {l : List Lv} (h : rtL m l) {i : Nat} {x : Lv} (hx : l[i]? = some x) : ∀ y ∈ l.drop (i + 1), x.f0 + wd x.f1 ≤ y.f0 := by
 obtain ⟨h1, h2⟩ := List.getElem?_eq_some_iff.1 hx
 have e : l = l.take i ++ x :: l.drop (i + 1) := by rw [← h2, ← List.drop_eq_getElem_cons h1, List.take_append_drop]
 rw [e] at h
 exact (rtL_suf h).2.1
set_option maxRecDepth 100000 in
set_option maxHeartbeats 4000000 in
theorem apart_all (w : World) (a0 : Int) (w0 : (Lit.int .u16 a0).wf = true) (A : Option Addr) (c : Nat) (ns : List Int) (hr : Kd.C (Kd.int .u8) w A ns.length ns) (hc : ns.length ≤ c) (hw : ∀ x ∈ ns, (Lit.int .u8 x).wf = true) (hmax : ns.length ≤ 140737488351232) :
  Calls Try.prog 12 #[.int .u16 a0, .slice A ns.length c] w fun e w' => e = .returned (.bool true) ∧ Below w.heap.size w w' := by
 have hu := Try.underlying48
 have hu2 := Try.underlying41
 have hu3 := Try.underlying72
 have hu4 := Try.underlying4
 have hi := Try.underlying3
 have h1 := u16_of w0
 obtain ⟨m, hmm⟩ : ∃ m, m = a0 % 4097 := ⟨_, rfl⟩
 have hm : mOk m := by unfold mOk; omega
 have hm0 : 0 ≤ m := by omega
 have hm1 : m ≤ 4096 := by omega
 have HM := Sh.mk hm
 obtain ⟨D, hD⟩ : ∃ D, D = deedsG m [] ns 0 := ⟨_, rfl⟩
 have hDl : D.length ≤ 100 := by rw [hD]; exact deeds_len m ns
 have t1 : a0.tmod 4097 = m := by rw [Int.tmod_eq_emod_of_nonneg h1.1]; exact hmm.symm
 have w0_ : IntKind.i64.wrap a0 = a0 := IntWalk.i64_in _ (by omega)
 obtain ⟨q, n, ok, e⟩ : ∃ q n ok, accsL m [] D = (q, n, ok) := ⟨_, _, _, rfl⟩
 obtain ⟨hq, hql⟩ := accs_rt hm D [] trivial
 have hqo := accs_own m D [] (by intro x hx; cases hx)
 rw [e] at hq hql hqo
 dsimp only at hq hql hqo
 simp only [List.length_nil] at hql
 have hql2 : q.length ≤ 100 := by omega
 have HRQ := Sh.mk hq
 have HOQ := Sh.mk hqo
 have HMAY : Sh (mayL m q = true) := ⟨(mayL_iff m q).2 ⟨hm, hq⟩⟩
 have E := Sh.mk e
 have HDE := Sh.mk (fun W (hW : Below w.heap.size w W) => deeds_anyR (w := W) hm (Kd.C_below hr hW) hc hw hmax)
 rw [← hD] at HDE
 clear hq hql hqo e hmm hm hD hr hw h1
 go_enter Try.func12, Try.ntmps12
 go_wp2_with fail
 (with_reducible refine (new_any m w).mono ?_); rintro e w1 ⟨rfl, hd⟩
 have B2 : Sh (Below (w).heap.size (w) (w1)) := ⟨hd⟩
 have HB2 : Sh (Below w.heap.size w (w1)) := B2
 clear hd
 go_wp2_with fail
 (with_reducible refine ((HDE.out _ HB2.out)).mono ?_); rintro e w3 ⟨A5, c5, rfl, hl5, hC5, hd⟩
 have B4 : Sh (Below (w1).heap.size (w1) (w3)) := ⟨hd⟩
 have HB4 : Sh (Below w.heap.size w (w3)) := ⟨below_step HB2.out B4.out⟩
 clear HB2
 clear hd
 have r5C4 : Sh (Kd.C k71 (w3) A5 D.length D) := ⟨hC5⟩
 have r5H := Sh.mk hl5
 clear hC5 hl5
 have hq := accepts_anyR HM.out (l := []) trivial (by rw [List.length_nil]; omega) (Rd.nil w3) r5C4.out r5H.out
 rw [E.out] at hq
 have HQ := Sh.mk hq
 clear hq
 go_wp2_with fail
 (with_reducible refine (HQ.out).mono ?_); rintro e w5 ⟨u, rfl, hu_, hd⟩
 obtain ⟨A6, c6, rfl, hl6, hC6⟩ := hu_
 have B6 : Sh (Below (w3).heap.size (w3) ((w5.alloc (.cells #[.int .i64 m, .slice A6 q.length c6] 41)))) := ⟨below_alloc (hd) _⟩
 have r5C6 := Sh.mk (Kd.C_below r5C4.out B6.out)
 clear r5C4
 have HB6 : Sh (Below w.heap.size w ((w5.alloc (.cells #[.int .i64 m, .slice A6 q.length c6] 41)))) := ⟨below_step HB4.out B6.out⟩
 clear HB4
 have g6_n5 : Sh (((w5.alloc (.cells #[.int .i64 m, .slice A6 q.length c6] 41))).heap[w5.heap.size]? = some (.cells #[.int .i64 m, .slice A6 q.length c6] 41 (0, 0))) := ⟨(blk_new w5 _)⟩
 clear hd
 have r6C6 : Sh (Kd.C k48 ((w5.alloc (.cells #[.int .i64 m, .slice A6 q.length c6] 41))) A6 q.length q) := ⟨(Kd.C_alloc hC6 _)⟩
 have r6H := Sh.mk hl6
 clear hC6 hl6
 have q_g6_0 : ((w5.alloc (.cells #[.int .i64 m, .slice A6 q.length c6] 41))).cell? ⟨w5.heap.size, 0, none⟩ = some (.int .i64 m) := (blk_cell g6_n5.out 0).trans rfl
 have q_g6_1 : ((w5.alloc (.cells #[.int .i64 m, .slice A6 q.length c6] 41))).cell? ⟨w5.heap.size, 1, none⟩ = some (.slice A6 q.length c6) := (blk_cell g6_n5.out 1).trans rfl
 obtain ⟨wB, hwB⟩ : ∃ x, x = (w5.alloc (.cells #[.int .i64 m, .slice A6 q.length c6] 41)) := ⟨_, rfl⟩
 go_wp2_with (first | (refine Kd.R_make Kd.bool (w0 := (w5.alloc (.cells #[.int .i64 m, .slice A6 q.length c6] 41))) ((w5.alloc (.cells #[.int .i64 m, .slice A6 q.length c6] 41))).heap.size 4 rfl (N := 28) rfl 72 (.tmp 27) (.tmp 27) rfl m rfl rfl Try.underlying72 (.bool false) 1 (by kernel_rfl) rfl (by decide) (by decide) false (okp := fun _ => False) (ok := fun _ => True) ?aZ (fun _ hk => hk.elim) trivial hm0 (by omega) (Below.refl _ _) (Nat.le_refl _) ?_; (case aZ => rfl); intro v1 w9 ho hd hg hat; clear hg))
 have hf : ∃ g cap, v1 = .slice (some ⟨g, 0, none⟩) m.toNat cap ∧ ((w5.alloc (.cells #[.int .i64 m, .slice A6 q.length c6] 41))).heap.size ≤ g ∧ g < w9.heap.size := by
  obtain ⟨b, hb1, hb2⟩ := hat
  obtain ⟨_, inner, hown, _⟩ := ho
  rcases hown.2 with ⟨e, _⟩ | ⟨g, cap, cu, e, _, hcu, _⟩
  ·subst e
   simp [Value.ownBlock] at hb1
  ·subst e
   simp [Value.ownBlock] at hb1
   subst hb1
   exact ⟨g, cap, by simp, hb2, blk_lt hcu⟩
 obtain ⟨g9, cap, e9, hg9, ht9⟩ := hf
 subst e9
 obtain ⟨M, hM⟩ : ∃ M, M = m.toNat := ⟨_, rfl⟩
 have hMm : (M : Int) = m := by omega
 rw [← hM] at ho
 have HA : AP ((w5.alloc (.cells #[.int .i64 m, .slice A6 q.length c6] 41))) g9 cap M (List.replicate M false) w9 := ⟨hd, ho, hg9, ht9, by simp⟩
 rw [← hM]
 clear hat hd ho hM hwB wB
 go_wp2
 go_loopw [10] (fun vi wr => ∃ (i : Nat) (bs : List Bool) (e0 : Int), i ≤ q.length ∧ vi = .int .i64 i ∧ Sh (clearB bs e0 ∧ ∀ y ∈ q.drop i, e0 ≤ y.f0) ∧ AP ((w5.alloc (.cells #[.int .i64 m, .slice A6 q.length c6] 41))) g9 cap M bs wr) (fun vi _ => q.length - (intOf vi).toNat)
 case atStart => exact ⟨0, List.replicate M false, 0, Nat.zero_le _, rfl, ⟨clear_new _ _, fun y hy => (rtL_lie HRQ.out (List.mem_of_mem_drop hy)).1.2.1⟩, HA⟩
 case round =>
  clear HA q_g6_0 q_g6_1
  obtain ⟨i, bs, e0, hi_, rfl, HCL, HA⟩ := hrel
  obtain ⟨wo, hwo⟩ : ∃ x, x = wr := ⟨_, rfl⟩
  subst hwo
  have B7 : Sh (Below ((w5.alloc (.cells #[.int .i64 m, .slice A6 q.length c6] 41))).heap.size ((w5.alloc (.cells #[.int .i64 m, .slice A6 q.length c6] 41))) (wo)) := ⟨HA.bl⟩
  have g6_7 := Sh.mk (blk_below g6_n5.out B7.out)
  clear g6_n5
  have r6C7 := Sh.mk (Kd.C_below r6C6.out B7.out)
  clear r6C6
  have HB7 : Sh (Below w.heap.size w (wo)) := ⟨below_step HB6.out B7.out⟩
  clear HB6
  have q_g6_0 : (wo).cell? ⟨w5.heap.size, 0, none⟩ = some (.int .i64 m) := (blk_cell g6_7.out 0).trans rfl
  have q_g6_1 : (wo).cell? ⟨w5.heap.size, 1, none⟩ = some (.slice A6 q.length c6) := (blk_cell g6_7.out 1).trans rfl
  by_cases hlt : i < q.length
  ·obtain ⟨ad6, rfl, e_x_0, e_x_1, e_x_2⟩ := at_T48 r6C7.out (i : Int) (by omega) (by omega)
   obtain ⟨x, hx⟩ : ∃ y, y = rd_T48 q (i : Int) := ⟨_, rfl⟩
   rw [← hx] at e_x_0 e_x_1 e_x_2
   rw [Int.toNat_natCast] at e_x_0 e_x_1 e_x_2
   have HX_x := Sh.mk hx
   clear hx
   have hxx : q[i]? = some x := by
    rw [HX_x.out, rd_T48, Int.toNat_natCast, List.getD_eq_getElem?_getD, List.getElem?_eq_getElem hlt]
    rfl
   have hlie := (rtL_lie HRQ.out (List.mem_of_getElem? hxx)).1
   have hx2 := HOQ.out x (List.mem_of_getElem? hxx)
   have hnext := rtL_get HRQ.out hxx
   have he0 := HCL.out.2 x (by rw [List.drop_eq_getElem_cons hlt]; simp [(List.getElem?_eq_some_iff.1 hxx).2])
   rw [hx2] at e_x_2
   obtain ⟨nw, hnw⟩ : ∃ y, y = wd x.f1 := ⟨_, rfl⟩
   unfold lieP at hlie
   rw [← hnw] at hlie hnext
   obtain ⟨hl1, hl2, _, hl4⟩ := hlie
   obtain ⟨e1, he1⟩ : ∃ y, y = x.f0 + nw := ⟨_, rfl⟩
   rw [← he1] at hnext hl4
   have w5_ : IntKind.i64.wrap (x.f0 + nw) = e1 := by rw [he1]; exact IntWalk.i64_in _ (by omega)
   have w6_ : IntKind.i64.wrap (m - x.f0) = m - x.f0 := IntWalk.i64_in _ (by omega)
   have c1_ : decide (x.f0 < 0) = false := decide_eq_false (by omega)
   have c2_ : (nw == 0) = false := by simpa using (show ¬ nw = 0 by omega)
   have c3_ : decide (m < x.f0) = false := decide_eq_false (by omega)
   have c4_ : decide (m - x.f0 < nw) = false := decide_eq_false (by omega)
   have c3' : decide (x.f0 > m) = false := decide_eq_false (by omega)
   have c4' : decide (nw > m - x.f0) = false := decide_eq_false (by omega)
   have c2' : ¬ nw = 0 := by omega
   have c5_ : x.f0 ≤ e1 := by omega
   have HN := Sh.mk hnext
   have HCL1 := Sh.mk (clear_le HCL.out.1 he0)
   have HQW : ∀ W, Sh (Calls Try.prog 17 #[.int .i64 x.f1] W fun e w' => e = .returned (.int .i64 nw) ∧ Below W.heap.size W w') := fun W => ⟨by
    have h := words_q x.f1 W
    rw [← hnw] at h
    exact h.mono (fun e w' ⟨h1, m', h2⟩ => ⟨h1, by rw [h2]; exact pw_below_drewN (Below.refl _ _) _⟩)⟩
   clear hxx hx2 hnext hnw he1 HCL he0
   have B8 : Sh (Below (wo).heap.size (wo) ((wo.alloc (.cells #[.int .i64 x.f0, .int .i64 x.f1, .int .i64 (-1)] 48)))) := ⟨(below_alloc (Below.refl _ _) _)⟩
   have g6_8 := Sh.mk (blk_below g6_7.out B8.out)
   clear g6_7
   have r6C8 := Sh.mk (Kd.C_below r6C7.out B8.out)
   clear r6C7
   have HB8 : Sh (Below w.heap.size w ((wo.alloc (.cells #[.int .i64 x.f0, .int .i64 x.f1, .int .i64 (-1)] 48)))) := ⟨below_step HB7.out B8.out⟩
   clear HB7
   have g11_n8 : Sh (((wo.alloc (.cells #[.int .i64 x.f0, .int .i64 x.f1, .int .i64 (-1)] 48))).heap[wo.heap.size]? = some (.cells #[.int .i64 x.f0, .int .i64 x.f1, .int .i64 (-1)] 48 (0, 0))) := ⟨blk_new wo _⟩
   have q_g6_0 : ((wo.alloc (.cells #[.int .i64 x.f0, .int .i64 x.f1, .int .i64 (-1)] 48))).cell? ⟨w5.heap.size, 0, none⟩ = some (.int .i64 m) := (blk_cell g6_8.out 0).trans rfl
   have q_g6_1 : ((wo.alloc (.cells #[.int .i64 x.f0, .int .i64 x.f1, .int .i64 (-1)] 48))).cell? ⟨w5.heap.size, 1, none⟩ = some (.slice (some ad6) q.length c6) := (blk_cell g6_8.out 1).trans rfl
   have q_g11_0 : ((wo.alloc (.cells #[.int .i64 x.f0, .int .i64 x.f1, .int .i64 (-1)] 48))).cell? ⟨wo.heap.size, 0, none⟩ = some (.int .i64 x.f0) := (blk_cell g11_n8.out 0).trans rfl
   have q_g11_1 : ((wo.alloc (.cells #[.int .i64 x.f0, .int .i64 x.f1, .int .i64 (-1)] 48))).cell? ⟨wo.heap.size, 1, none⟩ = some (.int .i64 x.f1) := (blk_cell g11_n8.out 1).trans rfl
   have q_g11_2 : ((wo.alloc (.cells #[.int .i64 x.f0, .int .i64 x.f1, .int .i64 (-1)] 48))).cell? ⟨wo.heap.size, 2, none⟩ = some (.int .i64 (-1)) := (blk_cell g11_n8.out 2).trans rfl
   go_wp2_with fail
   (with_reducible refine ((HQW ((wo.alloc (.cells #[.int .i64 x.f0, .int .i64 x.f1, .int .i64 (-1)] 48)))).out).mono ?_); rintro e w9 ⟨rfl, hd⟩
   clear q_g6_0 q_g6_1 q_g11_0 q_g11_1 q_g11_2
   have B10 : Sh (Below ((wo.alloc (.cells #[.int .i64 x.f0, .int .i64 x.f1, .int .i64 (-1)] 48))).heap.size ((wo.alloc (.cells #[.int .i64 x.f0, .int .i64 x.f1, .int .i64 (-1)] 48))) (w9)) := ⟨hd⟩
   have g6_10 := Sh.mk (blk_below g6_8.out B10.out)
   clear g6_8
   have g11_10 := Sh.mk (blk_below g11_n8.out B10.out)
   clear g11_n8
   have r6C10 := Sh.mk (Kd.C_below r6C8.out B10.out)
   clear r6C8
   have HB10 : Sh (Below w.heap.size w (w9)) := ⟨below_step HB8.out B10.out⟩
   clear HB8
   clear hd
   have q_g6_0 : (w9).cell? ⟨w5.heap.size, 0, none⟩ = some (.int .i64 m) := (blk_cell g6_10.out 0).trans rfl
   have q_g6_1 : (w9).cell? ⟨w5.heap.size, 1, none⟩ = some (.slice (some ad6) q.length c6) := (blk_cell g6_10.out 1).trans rfl
   have q_g11_0 : (w9).cell? ⟨wo.heap.size, 0, none⟩ = some (.int .i64 x.f0) := (blk_cell g11_10.out 0).trans rfl
   have q_g11_1 : (w9).cell? ⟨wo.heap.size, 1, none⟩ = some (.int .i64 x.f1) := (blk_cell g11_10.out 1).trans rfl
   have q_g11_2 : (w9).cell? ⟨wo.heap.size, 2, none⟩ = some (.int .i64 (-1)) := (blk_cell g11_10.out 2).trans rfl
   have HA1 : AP ((w5.alloc (.cells #[.int .i64 m, .slice (some ad6) q.length c6] 41))) g9 cap M bs w9 := HA.below (below_step (below_alloc (Below.refl _ _) _) B10.out)
   have hgo := HA.ht
   have G11 := g11_10
   go_wp2
   go_loopw [13] (fun vk wr => ∃ (k : Int) (bs : List Bool), x.f0 ≤ k ∧ k ≤ e1 ∧ vk = .int .i64 k ∧ Sh (clearB bs k) ∧ Sh (wr.heap[wo.heap.size]? = some (.cells #[.int .i64 x.f0, .int .i64 x.f1, .int .i64 (-1)] 48 (0, 0))) ∧ AP ((w5.alloc (.cells #[.int .i64 m, .slice (some ad6) q.length c6] 41))) g9 cap M bs wr) (fun vk _ => (e1 - intOf vk).toNat)
   case atStart => exact ⟨x.f0, bs, by omega, c5_, rfl, HCL1, G11, HA1⟩
   case round =>
    clear HA1 HA HCL1 G11 q_g6_0 q_g6_1 q_g11_0 q_g11_1 q_g11_2
    obtain ⟨k, bs, hk1, hk2, rfl, HCL, G11, HA⟩ := hrel
    have q1 : wr.cell? ⟨wo.heap.size, 0, none⟩ = some (.int .i64 x.f0) := (blk_cell G11.out 0).trans rfl
    by_cases hk : k < e1
    ·obtain ⟨hb1, hb2⟩ := HA.cell k (by omega) (by omega)
     rw [HCL.out k (Int.le_refl _) (by omega)] at hb1
     have w7_ : IntKind.i64.wrap (k + 1) = k + 1 := IntWalk.i64_in _ (by omega)
     have k0_ : (0 : Int) ≤ k := by omega
     have k1_ : k < (M : Int) := by omega
     have k2_ : decide (k < e1) = true := decide_eq_true hk
     have HA2 := HA.set k
     have hlt2 := blk_lt G11.out
     have hgx : wo.heap.size ≠ g9 := by omega
     have G12 := Sh.mk (blk_far (p := ⟨g9, k.toNat, none⟩) G11.out hgx (.bool true))
     have HCL2 := Sh.mk (clear_set HCL.out k0_)
     go_wp2
     go_roundw
     case rel => exact ⟨k + 1, bs.set k.toNat true, by omega, by omega, rfl, HCL2, G12, HA2⟩
     case measure => simp [intOf]; omega
    ·have k2_ : decide (k < e1) = false := decide_eq_false hk
     have i1_ : IntKind.i64.wrap ((i : Int) + 1) = ((i + 1 : Nat) : Int) := by rw [IntWalk.i64_in _ (by omega)]; omega
     go_wp2
     go_roundw
     case rel => exact ⟨i + 1, bs, k, by omega, by go_num, ⟨HCL.out, fun y hy => by have := HN.out y hy; omega⟩, HA⟩
     case measure => simp [intOf]; omega
  ·obtain rfl : i = q.length := by omega
   have hq := may_any (m := m) (by omega) ⟨A6, c6, rfl, r6H.out, r6C7.out⟩
   rw [HMAY.out] at hq
   have HP := Sh.mk hq
   clear hq
   go_wp2_with fail
   (with_reducible refine (HP.out).mono ?_); rintro e w8 ⟨rfl, hd⟩
   clear q_g6_0 q_g6_1
   have B9 : Sh (Below (wo).heap.size (wo) (w8)) := ⟨hd⟩
   have g6_9 := Sh.mk (blk_below g6_7.out B9.out)
   clear g6_7
   have r6C9 := Sh.mk (Kd.C_below r6C7.out B9.out)
   clear r6C7
   have HB9 : Sh (Below w.heap.size w (w8)) := ⟨below_step HB7.out B9.out⟩
   clear HB7
   clear hd
   have q_g6_0 : (w8).cell? ⟨w5.heap.size, 0, none⟩ = some (.int .i64 m) := (blk_cell g6_9.out 0).trans rfl
   have q_g6_1 : (w8).cell? ⟨w5.heap.size, 1, none⟩ = some (.slice A6 q.length c6) := (blk_cell g6_9.out 1).trans rfl
   have HW := Sh.mk (awake_any (w8))
   go_wp2_with fail
   (with_reducible refine (HW.out).mono ?_); rintro e w10 ⟨rfl, hd⟩
   clear q_g6_0 q_g6_1
   have B11 : Sh (Below (w8).heap.size (w8) (w10)) := ⟨hd⟩
   have g6_11 := Sh.mk (blk_below g6_9.out B11.out)
   clear g6_9
   have r6C11 := Sh.mk (Kd.C_below r6C9.out B11.out)
   clear r6C9
   have HB11 : Sh (Below w.heap.size w (w10)) := ⟨below_step HB9.out B11.out⟩
   clear HB9
   clear hd
   go_wp2
   refine bodyPost_ret (v := .bool true) (by simp [results, Try.results12, go_sem]) rfl ?_
   exact ⟨rfl, HB11.out⟩
end Go.Proofs.Ytflhbakjlbmfbaa
