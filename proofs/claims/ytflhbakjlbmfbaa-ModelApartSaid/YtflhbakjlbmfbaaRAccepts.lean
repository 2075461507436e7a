/- The document's Accepts, of a model without stacks: its contract. No statement is proved here. -/
import Derived.Test.YtflhbakjlbmfbaaAccepts
namespace Go.Proofs.Ytflhbakjlbmfbaa
set_option linter.unusedVariables false
set_option linter.unusedSimpArgs false
open Go.RowKit Go.Proofs.YtflhbakjlbmfbaaW.PrintWords Go.Proofs.YtflhbakjlbmfbaaW.PrintLast Go.Proofs.YtflhbakjlbmfbaaW.PrintMore Pr Go.Proofs.Ytflhbakjlbmfbaa.Pure

set_option maxRecDepth 100000 in
set_option maxHeartbeats 8000000 in
theorem raccepts_any (m : Int) (B : Option Addr) (cd : Nat) (D : List De) (w : World) (hm : mOk m) (hlen : D.length ≤ 1000) (hD : Kd.C k71 w B D.length D) (hcd : D.length ≤ cd) :
  Calls Try.prog 37 #[.agg #[.int .i64 m, .slice none 0 0], .slice B D.length cd] w (AccPost m [] D w) := by
 have hu := Try.underlying48
 have hu2 := Try.underlying41
 have hu3 := Try.underlying71
 have HD := Sh.mk hD
 have HM := Sh.mk hm
 have HA0 := RA.new w m none 0 0
 have HX : RX w w.heap.size (w.heap.size + 1) m none 0 [] ((w.alloc (.cells #[.int .i64 m, .slice none 0 0] 41)).alloc (.cells #[.int .i64 0, .slice none 0 0] 41)) :=
  ⟨HA0.b3, HA0.b6, Nat.le_refl _, by omega, by omega, HA0.bl, Nat.le_refl _, Kd.F_nil _ _ _⟩
 clear hD hm HA0
 go_enter Try.func37, Try.ntmps37
 go_wp2
 go_loopw [7] (fun vi wr => ∃ (i : Nat) (q : List Lv) (Aq : Option Addr) (cq : Nat), i ≤ D.length ∧ vi = .int .i64 i ∧ Sh (rtL m q ∧ q.length ≤ i) ∧ Sh (accsL m [] D = plusN i (accsL m q (D.drop i))) ∧ RX w w.heap.size (w.heap.size + 1) m Aq cq q wr) (fun vi _ => D.length - (intOf vi).toNat)
 case atStart => exact ⟨0, [], none, 0, Nat.zero_le _, rfl, ⟨trivial, Nat.le_refl _⟩, ⟨by simp [plusN]⟩, HX⟩
 case round =>
  clear HX
  obtain ⟨i, q, Aq, cq, hi, rfl, HR, HV, HX⟩ := hrel
  by_cases hlt : i < D.length
  ·obtain ⟨ad, rfl, hx0, hx1, hx2, hx3⟩ := at_T71 (Kd.C_below HD.out HX.bl) (i : Int) (by omega) (by omega)
   obtain ⟨d, hd⟩ : ∃ x, x = rd_T71 D (i : Int) := ⟨_, rfl⟩
   rw [← hd] at hx0 hx1 hx2 hx3
   rw [Int.toNat_natCast] at hx0 hx1 hx2 hx3
   have hdd : D[i]? = some d := by
    rw [hd, rd_T71, Int.toNat_natCast, List.getD_eq_getElem?_getD, List.getElem?_eq_getElem hlt]
    rfl
   clear hd
   obtain ⟨r1, r2, r3, har⟩ : ∃ a b c, accR m q d = (a, b, c) := ⟨_, _, _, rfl⟩
   have HQ : ∀ W, Below wr.heap.size wr W → Sh (Calls Try.prog 72 #[.agg #[.int .i64 m, .slice Aq q.length cq], .agg #[.int .i64 d.f0, .int .i64 d.f1, .int .i64 d.f2, .int .i64 d.f3]] W fun e w' => ∃ (A' : Option Addr) (c' : Nat), e = .returned (.tuple #[.agg #[.int .i64 r1, .slice A' r2.length c'], .bool r3]) ∧ r2.length ≤ c' ∧ Kd.F k48 w' (fun k => ((w.heap.size ≤ k ∧ k ≠ w.heap.size ∧ k ≠ w.heap.size + 1) ∧ k < wr.heap.size) ∨ W.heap.size ≤ k) A' r2.length r2 ∧ Below W.heap.size W w') := fun W hW => ⟨by
    have h := accept_any m Aq cq q d _ W HM.out HR.out.1 (by have := HR.out.2; omega) (Kd.F_old HX.row hW) HX.qc
    unfold AfterPost at h
    rw [har] at h
    exact h⟩
   have q20 := HX.c20
   have q21 := HX.c21
   have HE : ∀ W, Below wr.heap.size wr W → Sh ((W.cell? ⟨w.heap.size, 0, none⟩ = some (.int .i64 m) ∧ W.cell? ⟨w.heap.size, 1, none⟩ = some (.slice Aq q.length cq)) ∧ W.cell? (ad.add (i * 4)) = some (.int .i64 d.f0) ∧ W.cell? ⟨(ad.add (i * 4)).block, (ad.add (i * 4)).off + 1, none⟩ = some (.int .i64 d.f1) ∧ W.cell? ⟨(ad.add (i * 4)).block, (ad.add (i * 4)).off + 2, none⟩ = some (.int .i64 d.f2) ∧ W.cell? ⟨(ad.add (i * 4)).block, (ad.add (i * 4)).off + 3, none⟩ = some (.int .i64 d.f3)) := fun W hW => ⟨⟨(HX.below hW).c20, (HX.below hW).c21⟩, (hW.cell (World.block_lt_of_cell? _ _ hx0)).trans hx0, (hW.cell (World.block_lt_of_cell? _ _ hx1)).trans hx1, (hW.cell (World.block_lt_of_cell? _ _ hx2)).trans hx2, (hW.cell (World.block_lt_of_cell? _ _ hx3)).trans hx3⟩
   have HZ0 : Sh (Below wr.heap.size wr wr.drew) := ⟨(Below.refl _ _).drew⟩
   have HZ1 : Sh (Below wr.heap.size wr (wr.alloc (.cells #[.int .i64 0, .slice none 0 0] 41)).drew) := ⟨(below_alloc (Below.refl _ _) _).drew⟩
   have HN : Sh ((wr.alloc (.cells #[.int .i64 0, .slice none 0 0] 41)).drew.heap[wr.heap.size]? = some (.cells #[.int .i64 0, .slice none 0 0] 41 (0, 0))) := ⟨blk_drew (blk_new wr _)⟩
   go_wp2
   go_region_held3 (fun W => (W.cell? ⟨w.heap.size, 0, none⟩ = some (.int .i64 m) ∧ W.cell? ⟨w.heap.size, 1, none⟩ = some (.slice Aq q.length cq)) ∧ W.cell? (ad.add (i * 4)) = some (.int .i64 d.f0) ∧ W.cell? ⟨(ad.add (i * 4)).block, (ad.add (i * 4)).off + 1, none⟩ = some (.int .i64 d.f1) ∧ W.cell? ⟨(ad.add (i * 4)).block, (ad.add (i * 4)).off + 2, none⟩ = some (.int .i64 d.f2) ∧ W.cell? ⟨(ad.add (i * 4)).block, (ad.add (i * 4)).off + 3, none⟩ = some (.int .i64 d.f3)) (first | exact (HE _ (Below.refl _ _)).out | exact (HE _ HZ0.out).out | exact (HE _ (below_alloc (Below.refl _ _) _)).out | exact (HE _ HZ1.out).out | exact (HE _ HB2.out).out | exact (HE _ (below_alloc HB2.out _)).out | exact (HE _ (below_set (below_set HB2.out (Nat.le_refl _)) (Nat.le_refl _))).out | exact (HE _ (below_set HB2.out (Nat.le_refl _))).out) (first | (go_at_call 72; (with_reducible refine (HQ _ HZ0.out).out.mono ?_); rintro e w2 ⟨A2, c2, rfl, hc2, hF2, hb⟩; have HB2 := Sh.mk (below_step HZ0.out hb); have HF2 := Sh.mk hF2; have HC2 := Sh.mk hc2; clear hF2 hb hc2) | (go_at_call 72; (with_reducible refine (HQ _ HZ1.out).out.mono ?_); rintro e w2 ⟨A2, c2, rfl, hc2, hF2, hb⟩; have HB2 := Sh.mk (below_step HZ1.out hb); have HN2 := Sh.mk (blk_below HN.out hb); have hz0 := (blk_cell HN2.out 0).trans rfl; have hz1 := (blk_cell HN2.out 1).trans rfl; have hz2 := blk_frozen HN2.out 0; have hz3 := blk_frozen HN2.out 1; have HF2 := Sh.mk hF2; have HC2 := Sh.mk hc2; clear hF2 hb hc2))
   ·have HX3 := (HX.below HB2.out).below (below_alloc (Below.refl _ _) (.cells #[.int .i64 r1, .slice A2 r2.length c2] 41))
    have HF : Sh (Kd.F k48 (w2.alloc (.cells #[.int .i64 r1, .slice A2 r2.length c2] 41)) (fun k => w.heap.size ≤ k ∧ k ≠ w.heap.size ∧ k ≠ w.heap.size + 1) A2 r2.length r2) := ⟨Kd.F_mono (Kd.F_alloc HF2.out _) (fun k hk => by
     rcases hk with hk | hk
     ·exact hk.1
     ·have h5 := blk_lt HX.b4; have h6 : wr.heap.size ≤ k := hk; omega)⟩
    clear q20 q21 hx0 hx1 hx2 hx3
    have q20 := HX3.c20
    have q21 := HX3.c21
    have q40 := HX3.c40
    have q41 := HX3.c41
    have q4f := HX3.f40
    have q4g := HX3.f41
    have q2f := HX3.f20
    have q2g := HX3.f21
    cases r3 with
    | true =>
     have hok := accR_ok HM.out HR.out.1 (d := d) (by rw [har])
     rw [har] at hok
     obtain ⟨h1, h2, h3⟩ := hok
     dsimp only at h1 h2 h3
     subst h1
     have HR2 : Sh (rtL r1 r2 ∧ r2.length ≤ i + 1) := ⟨h2, by have := HR.out.2; omega⟩
     have HS := Sh.mk (HV.out.trans (accs_ok r1 q D i d hdd har))
     clear har h2 h3 hdd
     go_wp2
     go_roundw
     case rel => exact ⟨i + 1, r2, A2, c2, by omega, by go_num, ⟨HR2.out⟩, ⟨HS.out⟩, HX3.next HC2.out HF.out⟩
     case measure => simp [intOf]; omega
    | false =>
     have HS := Sh.mk (HV.out.trans (accs_no m q D i d hdd har))
     clear har hdd
     go_wp2
     refine bodyPost_ret (v := .tuple #[.agg #[.int .i64 m, .slice Aq q.length cq], .int .i64 (i : Int), .bool false]) (by simp [HX3.p0, HX3.p1, results, Try.results37, go_sem]) rfl ?_
     exact acc_post HX3 HS.out _ _
   ·have HX3 := HX.below (below_set (below_set (v := .int .i64 r1) (j := 0) HB2.out (Nat.le_refl _)) (v := .slice A2 r2.length c2) (j := 1) (Nat.le_refl _))
    have HF : Sh (Kd.F k48 ((w2.setCell ⟨wr.heap.size, 0, none⟩ (.int .i64 r1)).setCell ⟨wr.heap.size, 1, none⟩ (.slice A2 r2.length c2)) (fun k => w.heap.size ≤ k ∧ k ≠ w.heap.size ∧ k ≠ w.heap.size + 1) A2 r2.length r2) := ⟨Kd.F_mono (Kd.F_far (p := ⟨wr.heap.size, 1, none⟩) (Kd.F_far (p := ⟨wr.heap.size, 0, none⟩) HF2.out (fun k hk => by
     show k ≠ wr.heap.size
     rcases hk with hk | hk
     ·omega
     ·have h6 : wr.heap.size + 1 ≤ k := by simpa using hk
      omega) _) (fun k hk => by
     show k ≠ wr.heap.size
     rcases hk with hk | hk
     ·omega
     ·have h6 : wr.heap.size + 1 ≤ k := by simpa using hk
      omega) _) (fun k hk => by
     rcases hk with hk | hk
     ·exact hk.1
     ·have h5 := blk_lt HX.b4; have h6 : wr.heap.size + 1 ≤ k := (by simpa using hk); omega)⟩
    have q80 : ((w2.setCell ⟨wr.heap.size, 0, none⟩ (.int .i64 r1)).setCell ⟨wr.heap.size, 1, none⟩ (.slice A2 r2.length c2)).cell? ⟨wr.heap.size, 0, none⟩ = some (.int .i64 r1) := (blk_cell (blk_put (cs' := #[.int .i64 r1, .slice A2 r2.length c2]) (blk_put (cs' := #[.int .i64 r1, .slice none 0 0]) HN2.out 0 _ rfl) 1 _ rfl) 0).trans rfl
    have q81 : ((w2.setCell ⟨wr.heap.size, 0, none⟩ (.int .i64 r1)).setCell ⟨wr.heap.size, 1, none⟩ (.slice A2 r2.length c2)).cell? ⟨wr.heap.size, 1, none⟩ = some (.slice A2 r2.length c2) := (blk_cell (blk_put (cs' := #[.int .i64 r1, .slice A2 r2.length c2]) (blk_put (cs' := #[.int .i64 r1, .slice none 0 0]) HN2.out 0 _ rfl) 1 _ rfl) 1).trans rfl
    generalize ((w2.setCell ⟨wr.heap.size, 0, none⟩ (.int .i64 r1)).setCell ⟨wr.heap.size, 1, none⟩ (.slice A2 r2.length c2)) = w3 at HX3 HF q80 q81 ⊢
    clear hz0 hz1 hz2 hz3
    clear q20 q21 hx0 hx1 hx2 hx3
    have q20 := HX3.c20
    have q21 := HX3.c21
    have q40 := HX3.c40
    have q41 := HX3.c41
    have q4f := HX3.f40
    have q4g := HX3.f41
    have q2f := HX3.f20
    have q2g := HX3.f21
    cases r3 with
    | true =>
     have hok := accR_ok HM.out HR.out.1 (d := d) (by rw [har])
     rw [har] at hok
     obtain ⟨h1, h2, h3⟩ := hok
     dsimp only at h1 h2 h3
     subst h1
     have HR2 : Sh (rtL r1 r2 ∧ r2.length ≤ i + 1) := ⟨h2, by have := HR.out.2; omega⟩
     have HS := Sh.mk (HV.out.trans (accs_ok r1 q D i d hdd har))
     clear har h2 h3 hdd
     go_wp2
     go_roundw
     case rel => exact ⟨i + 1, r2, A2, c2, by omega, by go_num, ⟨HR2.out⟩, ⟨HS.out⟩, HX3.next HC2.out HF.out⟩
     case measure => simp [intOf]; omega
    | false =>
     have HS := Sh.mk (HV.out.trans (accs_no m q D i d hdd har))
     clear har hdd
     go_wp2
     refine bodyPost_ret (v := .tuple #[.agg #[.int .i64 m, .slice Aq q.length cq], .int .i64 (i : Int), .bool false]) (by simp [HX3.p0, HX3.p1, results, Try.results37, go_sem]) rfl ?_
     exact acc_post HX3 HS.out _ _
  ·obtain rfl : i = D.length := by omega
   have HS : Sh (accsL m [] D = (q, D.length, true)) := ⟨by rw [HV.out, List.drop_length]; rfl⟩
   have q20 := HX.c20
   have q21 := HX.c21
   have q40 := HX.c40
   have q41 := HX.c41
   have q4f := HX.f40
   have q4g := HX.f41
   go_wp2
   refine bodyPost_ret (v := .tuple #[.agg #[.int .i64 m, .slice Aq q.length cq], .int .i64 (D.length : Int), .bool true]) (by simp [HX.p0, HX.p1, results, Try.results37, go_sem]) rfl ?_
   exact acc_post HX HS.out _ _
end Go.Proofs.Ytflhbakjlbmfbaa
