/- model.Accepts: its contract. No statement is proved here. -/
import Derived.Test.YtpddppipjlagfaaAfter
import Derived.Test.YtpddppipjlagfaaPure
namespace Go.Proofs.Ytpddppipjlagfaa
set_option linter.unusedVariables false
set_option linter.unusedSimpArgs false
open Go.RowKit Go.Proofs.YtpddppipjlagfaaW.PrintWords Go.Proofs.YtpddppipjlagfaaW.PrintLast Go.Proofs.YtpddppipjlagfaaW.PrintMore Pr Go.Proofs.Ytpddppipjlagfaa.Pure

/-- The parameter's box (a model), and a result's cells. -/
structure RX (w : World) (g h : Nat) (m : Int) (A : Option Addr) (c : Nat) (q : List Lv) (W : World) : Prop where
  b2 : W.heap[g]? = some (.cells #[.int .i64 m, .slice A q.length c] 43 (0, 0))
  b4 : W.heap[h]? = some (.cells #[.int .i64 0, .slice none 0 0] 43 (0, 0))
  gw : w.heap.size ≤ g
  hw : w.heap.size ≤ h
  gh : g ≠ h
  bl : Below w.heap.size w W
  qc : q.length ≤ c
  row : Kd.F k59 W (fun k => w.heap.size ≤ k ∧ k ≠ g ∧ k ≠ h) A q.length q
section
variable {w : World} {g h : Nat} {m : Int} {A : Option Addr} {c : Nat} {q : List Lv} {W W' : World}
theorem RX.below (x : RX w g h m A c q W) (hd : Below W.heap.size W W') : RX w g h m A c q W' :=
  ⟨blk_below x.b2 hd, blk_below x.b4 hd, x.gw, x.hw, x.gh, below_step x.bl hd, x.qc, Kd.F_below x.row hd⟩
theorem RX.c20 (x : RX w g h m A c q W) : W.cell? ⟨g, 0, none⟩ = some (.int .i64 m) := (blk_cell x.b2 0).trans rfl
theorem RX.c21 (x : RX w g h m A c q W) : W.cell? ⟨g, 1, none⟩ = some (.slice A q.length c) := (blk_cell x.b2 1).trans rfl
theorem RX.f20 (x : RX w g h m A c q W) : W.frozen? ⟨g, 0, none⟩ = false := blk_frozen x.b2 0
theorem RX.f21 (x : RX w g h m A c q W) : W.frozen? ⟨g, 1, none⟩ = false := blk_frozen x.b2 1
theorem RX.c40 (x : RX w g h m A c q W) : W.cell? ⟨h, 0, none⟩ = some (.int .i64 0) := (blk_cell x.b4 0).trans rfl
theorem RX.c41 (x : RX w g h m A c q W) : W.cell? ⟨h, 1, none⟩ = some (.slice none 0 0) := (blk_cell x.b4 1).trans rfl
theorem RX.f40 (x : RX w g h m A c q W) : W.frozen? ⟨h, 0, none⟩ = false := blk_frozen x.b4 0
theorem RX.f41 (x : RX w g h m A c q W) : W.frozen? ⟨h, 1, none⟩ = false := blk_frozen x.b4 1
theorem RX.p0 (r : RX w g h m A c q W) (x : Value) : (W.setCell ⟨h, 0, none⟩ x).cell? ⟨h, 0, none⟩ = some x := by rw [blk_cell (blk_set r.b4 0 x) 0]; rfl
theorem RX.p1 (r : RX w g h m A c q W) (x y : Value) : ((W.setCell ⟨h, 0, none⟩ x).setCell ⟨h, 1, none⟩ y).cell? ⟨h, 1, none⟩ = some y := by rw [blk_cell (blk_set (blk_set r.b4 0 x) 1 y) 1]; rfl
/-- What is handed back. -/
theorem RX.out (r : RX w g h m A c q W) (x y : Value) : Kd.F k59 ((W.setCell ⟨h, 0, none⟩ x).setCell ⟨h, 1, none⟩ y) (fun k => w.heap.size ≤ k) A q.length q ∧ Below w.heap.size w ((W.setCell ⟨h, 0, none⟩ x).setCell ⟨h, 1, none⟩ y) :=
  ⟨Kd.F_mono (Kd.F_far (p := ⟨h, 1, none⟩) (Kd.F_far (p := ⟨h, 0, none⟩) r.row (fun k hk => hk.2.2) _) (fun k hk => hk.2.2) _) (fun _ hk => hk.1), below_set (below_set r.bl r.hw) r.hw⟩
/-- The next model takes its place. -/
theorem RX.next {W2 : World} (r : RX w g h m A c q W2) {A2 : Option Addr} {c2 : Nat} {q2 : List Lv} (hc : q2.length ≤ c2) (hr : Kd.F k59 W2 (fun k => w.heap.size ≤ k ∧ k ≠ g ∧ k ≠ h) A2 q2.length q2) :
    RX w g h m A2 c2 q2 ((W2.setCell ⟨g, 0, none⟩ (.int .i64 m)).setCell ⟨g, 1, none⟩ (.slice A2 q2.length c2)) := by
  refine ⟨?_, ?_, r.gw, r.hw, r.gh, ?_, hc, ?_⟩
  · exact blk_put (cs := #[.int .i64 m, .slice A q.length c]) (blk_put (cs := #[.int .i64 m, .slice A q.length c]) r.b2 0 _ rfl) 1 _ rfl
  · exact blk_far (blk_far r.b4 (show h ≠ g from fun e => r.gh e.symm) _) (show h ≠ g from fun e => r.gh e.symm) _
  · exact below_set (below_set r.bl r.gw) r.gw
  · exact Kd.F_far (p := ⟨g, 1, none⟩) (Kd.F_far (p := ⟨g, 0, none⟩) hr (fun k hk => hk.2.1) _) (fun k hk => hk.2.1) _
end
def AccPost (m : Int) (l : List Lv) (D : List De) (w : World) (e : Ending) (w' : World) : Prop := ∃ (A' : Option Addr) (c' : Nat), e = .returned (.tuple #[.agg #[.int .i64 m, .slice A' (accsL m l D).1.length c'], .int .i64 ((accsL m l D).2.1 : Nat), .bool (accsL m l D).2.2]) ∧ (accsL m l D).1.length ≤ c' ∧ Kd.F k59 w' (fun k => w.heap.size ≤ k) A' (accsL m l D).1.length (accsL m l D).1 ∧ Below w.heap.size w w'
/-- How far deeds go, from a place on. -/
def plusN (i : Nat) (r : List Lv × Nat × Bool) : List Lv × Nat × Bool := (r.1, i + r.2.1, r.2.2)
theorem accs_ok (m : Int) (q : List Lv) (D : List De) (i : Nat) (d : De) (h : D[i]? = some d) {r1 : Int} {r2 : List Lv} (ha : accR m q d = (r1, r2, true)) : plusN i (accsL m q (D.drop i)) = plusN (i + 1) (accsL m r2 (D.drop (i + 1))) := by
  obtain ⟨h1, h2⟩ := List.getElem?_eq_some_iff.1 h
  rw [List.drop_eq_getElem_cons h1, h2, accsL, ha, if_pos rfl]
  unfold plusN
  dsimp only
  rw [show i + ((accsL m r2 (D.drop (i + 1))).2.1 + 1) = i + 1 + (accsL m r2 (D.drop (i + 1))).2.1 by omega]
theorem accs_no (m : Int) (q : List Lv) (D : List De) (i : Nat) (d : De) (h : D[i]? = some d) {r1 : Int} {r2 : List Lv} (ha : accR m q d = (r1, r2, false)) : plusN i (accsL m q (D.drop i)) = (q, i, false) := by
  obtain ⟨h1, h2⟩ := List.getElem?_eq_some_iff.1 h
  rw [List.drop_eq_getElem_cons h1, h2, accsL, ha, if_neg (by simp)]
  rfl
theorem acc_post {w : World} {g h : Nat} {m : Int} {A : Option Addr} {c : Nat} {q : List Lv} {W : World} (r : RX w g h m A c q W) {l : List Lv} {D : List De} {n : Nat} {b : Bool} (e : accsL m l D = (q, n, b)) (x y : Value) :
    AccPost m l D w (.returned (.tuple #[.agg #[.int .i64 m, .slice A q.length c], .int .i64 (n : Int), .bool b])) ((W.setCell ⟨h, 0, none⟩ x).setCell ⟨h, 1, none⟩ y) := by
  unfold AccPost
  rw [e]
  exact ⟨A, c, rfl, r.qc, (r.out x y).1, (r.out x y).2⟩
set_option maxRecDepth 100000 in
set_option maxHeartbeats 4000000 in
theorem accepts_any (m : Int) (A : Option Addr) (c : Nat) (l : List Lv) (B : Option Addr) (cd : Nat) (D : List De) (w : World) (hm : mOk m) (hrt : rtL m l) (hlen : l.length + D.length ≤ 1000) (hr : Kd.C k59 w A l.length l) (hc : l.length ≤ c) (hD : Kd.C k38 w B D.length D) (hcd : D.length ≤ cd) :
    Calls Try.prog 16 #[.agg #[.int .i64 m, .slice A l.length c], .slice B D.length cd] w (AccPost m l D w) := by
  have hu := Try.underlying59
  have hu2 := Try.underlying43
  have hu3 := Try.underlying38
  obtain ⟨W0, hW0⟩ : ∃ W0, W0 = (w.alloc (.cells #[.int .i64 m, .slice A l.length c] 43)).alloc (.cells #[.int .i64 0, .slice none 0 0] 43) := ⟨_, rfl⟩
  have HA0 : RA w m A l.length c W0 := by rw [hW0]; exact RA.new w m A l.length c
  have HQ := Sh.mk (api_Live_29.calls A c l l W0 (Kd.C_below hr HA0.bl) hc (by unfold api_Live_29.f; rw [if_pos (by omega)]))
  have HD := Sh.mk hD
  have HM := Sh.mk hm
  have HRT := Sh.mk hrt
  have q0 : W0.cell? ⟨w.heap.size, 1, none⟩ = some (.slice A l.length c) := (blk_cell HA0.b3 1).trans rfl
  clear hr hD hm hrt
  rw [hW0] at HA0 HQ q0
  go_enter Try.func16, Try.ntmps16
  go_wp2_with fail
  (with_reducible refine HQ.out.mono ?_); rintro e w2 ⟨v, rfl, hv, hd⟩
  obtain ⟨Aq, cq, e2⟩ := Kd.R_slice hv
  subst e2
  have HX : RX w w.heap.size (w.heap.size + 1) m Aq cq l (w2.setCell ⟨w.heap.size, 1, none⟩ (.slice Aq l.length cq)) := by
    have h1 := HA0.below hd
    have hlt := blk_lt HA0.b6
    have h2 := Kd.R_bound hv
    have h3 : Kd.F k59 w2 (fun k => w.heap.size ≤ k ∧ k ≠ w.heap.size ∧ k ≠ w.heap.size + 1) Aq l.length l := fun W' hW' => (Kd.R_reads' (Kd.R_step (w1 := W') h2 (fun k hk hlt2 => hW' k (by have := hk.2.1; omega) hlt2))).2.2
    exact ⟨blk_put (cs := #[.int .i64 m, .slice A l.length c]) h1.b3 1 _ rfl, blk_far h1.b6 (show w.heap.size + 1 ≠ w.heap.size by omega) _, Nat.le_refl _, by omega, by omega, below_set h1.bl (Nat.le_refl _), (Kd.R_reads' hv).2.1, Kd.F_far (p := ⟨w.heap.size, 1, none⟩) h3 (fun k hk => hk.2.1) _⟩
  have q0 : w2.cell? ⟨w.heap.size, 1, none⟩ = some (.slice A l.length c) := (blk_cell (HA0.below hd).b3 1).trans rfl
  have q0f := blk_frozen (HA0.below hd).b3 1
  clear hv hd hW0
  clear HA0 HQ
  go_wp2
  go_loopw [17] (fun vi wr => ∃ (i : Nat) (q : List Lv) (Aq : Option Addr) (cq : Nat), i ≤ D.length ∧ vi = .int .i64 i ∧ Sh (rtL m q ∧ q.length ≤ l.length + i) ∧ Sh (accsL m l D = plusN i (accsL m q (D.drop i))) ∧ RX w w.heap.size (w.heap.size + 1) m Aq cq q wr) (fun vi _ => D.length - (intOf vi).toNat)
  case atStart => exact ⟨0, l, Aq, cq, Nat.zero_le _, rfl, ⟨HRT.out, by omega⟩, ⟨by simp [plusN]⟩, HX⟩
  case round =>
    clear q0 q0f HX
    obtain ⟨i, q, Aq, cq, hi, rfl, HR, HV, HX⟩ := hrel
    by_cases hlt : i < D.length
    · obtain ⟨ad, rfl, hx0, hx1, hx2, hx3⟩ := at_T38 (Kd.C_below HD.out HX.bl) (i : Int) (by omega) (by omega)
      obtain ⟨d, hd⟩ : ∃ x, x = rd_T38 D (i : Int) := ⟨_, rfl⟩
      rw [← hd] at hx0 hx1 hx2 hx3
      rw [Int.toNat_natCast] at hx0 hx1 hx2 hx3
      have hdd : D[i]? = some d := by
        rw [hd, rd_T38, Int.toNat_natCast, List.getD_eq_getElem?_getD, List.getElem?_eq_getElem hlt]
        rfl
      clear hd
      obtain ⟨r1, r2, r3, har⟩ : ∃ a b c, accR m q d = (a, b, c) := ⟨_, _, _, rfl⟩
      have HX1 := HX.below (below_alloc (Below.refl _ _) (.cells #[.int .i64 d.f0, .int .i64 d.f1, .int .i64 d.f2, .int .i64 d.f3] 38))
      have hq := after_any m Aq cq q d _ _ HM.out HR.out.1 (by have := HR.out.2; omega) HX1.row HX1.qc
      unfold AfterPost at hq
      rw [har] at hq
      have HQ := Sh.mk hq
      clear hq
      have q20 := HX1.c20
      have q21 := HX1.c21
      cases r3 with
      | true =>
        have hok := accR_ok HM.out HR.out.1 (d := d) (by rw [har])
        rw [har] at hok
        obtain ⟨h1, h2, h3⟩ := hok
        dsimp only at h1 h2 h3
        subst h1
        have HR2 : Sh (rtL r1 r2 ∧ r2.length ≤ l.length + (i + 1)) := ⟨h2, by have := HR.out.2; omega⟩
        have HS := Sh.mk (HV.out.trans (accs_ok r1 q D i d hdd har))
        clear har h2 h3 hdd
        go_wp2_with fail
        (with_reducible refine HQ.out.mono ?_); rintro e w2 ⟨A2, c2, rfl, hc2, hF2, hb⟩
        have HX3 := (HX1.below hb).below (below_alloc (Below.refl _ _) (.cells #[.int .i64 r1, .slice A2 r2.length c2] 43))
        have HF : Sh (Kd.F k59 (w2.alloc (.cells #[.int .i64 r1, .slice A2 r2.length c2] 43)) (fun k => w.heap.size ≤ k ∧ k ≠ w.heap.size ∧ k ≠ w.heap.size + 1) A2 r2.length r2) := ⟨Kd.F_mono (Kd.F_alloc hF2 _) (fun k hk => by
          rcases hk with hk | hk
          · exact hk
          · have h5 := blk_lt HX1.b4; omega)⟩
        have HC2 := Sh.mk hc2
        clear hF2 hb q20 q21 hc2
        have q20 := HX3.c20
        have q21 := HX3.c21
        have q2f := HX3.f20
        have q2g := HX3.f21
        go_wp2
        go_roundw
        case rel => exact ⟨i + 1, r2, A2, c2, by omega, by go_num, ⟨HR2.out⟩, ⟨HS.out⟩, HX3.next HC2.out HF.out⟩
        case measure => simp [intOf]; omega
      | false =>
        have HS := Sh.mk (HV.out.trans (accs_no m q D i d hdd har))
        clear har hdd
        go_wp2_with fail
        (with_reducible refine HQ.out.mono ?_); rintro e w2 ⟨A2, c2, rfl, hc2, hF2, hb⟩
        have HX3 := (HX1.below hb).below (below_alloc (Below.refl _ _) (.cells #[.int .i64 r1, .slice A2 r2.length c2] 43))
        clear hF2 hb q20 q21 hc2
        have q20 := HX3.c20
        have q21 := HX3.c21
        have q40 := HX3.c40
        have q41 := HX3.c41
        have q4f := HX3.f40
        have q4g := HX3.f41
        go_wp2
        refine bodyPost_ret (v := .tuple #[.agg #[.int .i64 m, .slice Aq q.length cq], .int .i64 (i : Int), .bool false]) (by simp [HX3.p0, HX3.p1, results, Try.results16, go_sem]) rfl ?_
        exact acc_post HX3 HS.out _ _
    · obtain rfl : i = D.length := by omega
      have HS : Sh (accsL m l D = (q, D.length, true)) := ⟨by rw [HV.out, List.drop_length]; rfl⟩
      have q20 := HX.c20
      have q21 := HX.c21
      have q40 := HX.c40
      have q41 := HX.c41
      have q4f := HX.f40
      have q4g := HX.f41
      go_wp2
      refine bodyPost_ret (v := .tuple #[.agg #[.int .i64 m, .slice Aq q.length cq], .int .i64 (D.length : Int), .bool true]) (by simp [HX.p0, HX.p1, results, Try.results16, go_sem]) rfl ?_
      exact acc_post HX HS.out _ _
end Go.Proofs.Ytpddppipjlagfaa
