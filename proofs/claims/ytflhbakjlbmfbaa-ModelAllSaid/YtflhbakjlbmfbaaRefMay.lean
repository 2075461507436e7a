/- The document's model: the contract of May. No statement is proved here. -/
import Derived.Test.YtflhbakjlbmfbaaRefAlloc
import Derived.IntWalk
namespace Go.Proofs.Ytflhbakjlbmfbaa
set_option linter.unusedVariables false
set_option linter.unusedSimpArgs false
open Go.RowKit Go.Proofs.YtflhbakjlbmfbaaW.PrintWords Go.Proofs.YtflhbakjlbmfbaaW.PrintLast Go.Proofs.YtflhbakjlbmfbaaW.PrintMore Pr Go.Proofs.Ytflhbakjlbmfbaa.Pure

/-- Whether the rest of a list is right, behind what stands ahead. -/
def ckL (m : Int) : List Lv → List Lv → Bool
  | _, [] => true
  | pre, x :: suf => decide (lieP m x ∧ -1 ≤ x.f2) && ((match pre.getLast? with | none => true | some y => decide (y.f0 + wd y.f1 ≤ x.f0)) && ckL m (pre ++ [x]) suf)
def mayL (m : Int) (l : List Lv) : Bool := decide (mOk m) && ckL m [] l

theorem ck_zero (m : Int) (l : List Lv) (x : Lv) (h : l[0]? = some x) : ckL m (l.take 0) (l.drop 0) = (decide (lieP m x ∧ -1 ≤ x.f2) && ckL m (l.take 1) (l.drop 1)) := by
  cases l with
  | nil => simp at h
  | cons y l =>
    simp at h
    subst h
    simp [ckL]
theorem ck_succ (m : Int) (l : List Lv) (j : Nat) (x y : Lv) (h : l[j + 1]? = some x) (hy : l[j]? = some y) : ckL m (l.take (j + 1)) (l.drop (j + 1)) = (decide (lieP m x ∧ -1 ≤ x.f2) && (decide (y.f0 + wd y.f1 ≤ x.f0) && ckL m (l.take (j + 1 + 1)) (l.drop (j + 1 + 1)))) := by
  obtain ⟨h1, h2⟩ := List.getElem?_eq_some_iff.1 h
  obtain ⟨h3, h4⟩ := List.getElem?_eq_some_iff.1 hy
  have e1 : (l.take (j + 1)).getLast? = some y := by
    rw [List.take_succ_eq_append_getElem h3, h4]
    simp
  rw [List.drop_eq_getElem_cons h1, h2, ckL, e1, List.take_succ_eq_append_getElem h1, h2]
theorem lie_of {m : Int} {x : Lv} : lieP m x ↔ (0 < wd x.f1 ∧ 0 ≤ x.f0 ∧ x.f0 % 32 = 0 ∧ x.f0 + wd x.f1 ≤ m) := Iff.rfl
structure RB (w : World) (m : Int) (A : Option Addr) (n c : Nat) (W : World) : Prop where
  b1 : W.heap[w.heap.size]? = some (.cells #[.int .i64 m, .slice A n c] 41 (0, 0))
  bl : Below w.heap.size w W
theorem RB.new (w : World) (m : Int) (A : Option Addr) (n c : Nat) : RB w m A n c (w.alloc (.cells #[.int .i64 m, .slice A n c] 41)) where
  b1 := blk_new w _
  bl := below_alloc (Below.refl _ _) _
theorem RB.draw {w : World} {m : Int} {A : Option Addr} {n c : Nat} {W W' : World} (h : RB w m A n c W) (hd : ∃ q, W' = W.drewN q) : RB w m A n c W' := by
  obtain ⟨q, rfl⟩ := hd
  exact ⟨h.b1, pw_below_drewN h.bl _⟩
theorem RB.below {w : World} {m : Int} {A : Option Addr} {n c : Nat} {W W' : World} (h : RB w m A n c W) (hd : Below W.heap.size W W') : RB w m A n c W' :=
  ⟨blk_below h.b1 hd, below_step h.bl hd⟩
set_option maxRecDepth 100000 in
set_option maxHeartbeats 4000000 in
theorem rmay_any (m : Int) (A : Option Addr) (c : Nat) (l : List Lv) (w : World) (hr : Kd.C k48 w A l.length l) (hc : l.length ≤ c) (hl : l.length ≤ 17592186044416) :
    Calls Try.prog 30 #[.agg #[.int .i64 m, .slice A l.length c]] w fun e w' => e = .returned (.bool (mayL m l)) ∧ Below w.heap.size w w' := by
  have hu := Try.underlying48
  have hu2 := Try.underlying41
  have HR := Sh.mk hr
  have HA := RB.new w m A l.length c
  clear hr
  have hc1 : (w.alloc (.cells #[.int .i64 m, .slice A l.length c] 41)).cell? ⟨w.heap.size, 0, none⟩ = some (.int .i64 m) := (blk_cell HA.b1 0).trans rfl
  have hc2 : (w.alloc (.cells #[.int .i64 m, .slice A l.length c] 41)).cell? ⟨w.heap.size, 1, none⟩ = some (.slice A l.length c) := (blk_cell HA.b1 1).trans rfl
  by_cases d1 : m < 0
  · have HE : Sh (mayL m l = false) := ⟨by have h : ¬ mOk m := (by unfold mOk; omega); unfold mayL; rw [decide_eq_false h]; rfl⟩
    have b1 : decide (m < 0) = true := decide_eq_true d1
    go_enter Try.func30, Try.ntmps30
    go_wp2
    go_ret
    exact ⟨by rw [HE.out]; rfl, HA.bl⟩
  · have b1 : decide (m < 0) = false := decide_eq_false d1
    by_cases d2 : m > 16384
    · have HE : Sh (mayL m l = false) := ⟨by have h : ¬ mOk m := (by unfold mOk; omega); unfold mayL; rw [decide_eq_false h]; rfl⟩
      have b2 : decide (16384 < m) = true := decide_eq_true d2
      go_enter Try.func30, Try.ntmps30
      go_wp2
      go_ret
      exact ⟨by rw [HE.out]; rfl, HA.bl⟩
    · have b2 : decide (16384 < m) = false := decide_eq_false d2
      have HM : Sh (mayL m l = ckL m [] l) := ⟨by have h : mOk m := (by unfold mOk; omega); unfold mayL; rw [decide_eq_true h]; rfl⟩
      go_enter Try.func30, Try.ntmps30
      go_wp2
      go_loopw [3] (fun vi wr => ∃ i : Nat, i ≤ l.length ∧ vi = .int .i64 i ∧ Sh (ckL m [] l = ckL m (l.take i) (l.drop i)) ∧ Sh (∀ y ∈ l.take i, lieP m y) ∧ RB w m A l.length c wr) (fun vi _ => l.length - (intOf vi).toNat)
      case atStart => exact ⟨0, Nat.zero_le _, rfl, ⟨by simp⟩, ⟨by simp⟩, HA⟩
      case round =>
        clear hc1 hc2 HA
        obtain ⟨i, hi, rfl, HF, HP, HA⟩ := hrel
        have hc1 : wr.cell? ⟨w.heap.size, 0, none⟩ = some (.int .i64 m) := (blk_cell HA.b1 0).trans rfl
        have hc2 : wr.cell? ⟨w.heap.size, 1, none⟩ = some (.slice A l.length c) := (blk_cell HA.b1 1).trans rfl
        by_cases hlt : i < l.length
        · obtain ⟨ad, rfl, hx0, hx1, hx2⟩ := at_T48 (Kd.C_below HR.out HA.bl) (i : Int) (by omega) (by omega)
          obtain ⟨x, hx⟩ : ∃ x, x = rd_T48 l (i : Int) := ⟨_, rfl⟩
          rw [← hx] at hx0 hx1 hx2
          rw [Int.toNat_natCast] at hx0 hx1 hx2
          have hxx : l[i]? = some x := by
            rw [hx, rd_T48, Int.toNat_natCast, List.getD_eq_getElem?_getD, List.getElem?_eq_getElem hlt]
            rfl
          clear hx
          have HX := Sh.mk hxx
          clear hxx
          have hwd := wd_range x.f1
          have HW : Sh (0 ≤ m ∧ m ≤ 16384) := ⟨by omega⟩
          go_upto_region 8 with (first | (go_at_call 17; ((with_reducible refine (words_q _ _).mono ?_); rintro e w2 ⟨rfl, hd⟩; have HB := (HA.below (below_alloc (Below.refl _ _) (.cells #[.int .i64 x.f0, .int .i64 x.f1, .int .i64 x.f2] 48))).draw hd; have H4 : Sh (w2.heap[wr.heap.size]? = some (.cells #[.int .i64 x.f0, .int .i64 x.f1, .int .i64 x.f2] 48 (0, 0))) := ⟨by obtain ⟨q, rfl⟩ := hd; exact blk_new _ _⟩; have H5 : Sh (Below wr.heap.size wr w2) := ⟨by obtain ⟨q, rfl⟩ := hd; exact pw_below_drewN (below_alloc (Below.refl _ _) _) _⟩; clear hd)))
          clear hc1 hc2 hx0 hx1 hx2
          have hc1 : w2.cell? ⟨w.heap.size, 0, none⟩ = some (.int .i64 m) := (blk_cell HB.b1 0).trans rfl
          have hc2 : w2.cell? ⟨w.heap.size, 1, none⟩ = some (.slice (some ad) l.length c) := (blk_cell HB.b1 1).trans rfl
          have hx0 : w2.cell? ⟨wr.heap.size, 0, none⟩ = some (.int .i64 x.f0) := (blk_cell H4.out 0).trans rfl
          have hx1 : w2.cell? ⟨wr.heap.size, 1, none⟩ = some (.int .i64 x.f1) := (blk_cell H4.out 1).trans rfl
          have hx2 : w2.cell? ⟨wr.heap.size, 2, none⟩ = some (.int .i64 x.f2) := (blk_cell H4.out 2).trans rfl
          go_cut [62] (fun v62 wc => v62 = .bool (!decide (lieP m x ∧ -1 ≤ x.f2)) ∧ wc = w2)
          case first =>
            have e1 := lie_of (m := m) (x := x)
            by_cases c1 : wd x.f1 = 0
            · have HE : Sh (decide (lieP m x ∧ -1 ≤ x.f2) = false) := ⟨decide_eq_false (by rw [e1]; omega)⟩
              have b1 : (wd x.f1 == 0) = true := by simpa using c1
              clear e1 c1
              go_wp2
              go_meet
              exact ⟨by rw [HE.out]; rfl, rfl⟩
            · have b1 : (wd x.f1 == 0) = false := by simpa using c1
              by_cases c2 : x.f0 < 0
              · have HE : Sh (decide (lieP m x ∧ -1 ≤ x.f2) = false) := ⟨decide_eq_false (by rw [e1]; omega)⟩
                have b2 : decide (x.f0 < 0) = true := decide_eq_true c2
                clear e1 c1
                go_wp2
                go_meet
                exact ⟨by rw [HE.out]; rfl, rfl⟩
              · have b2 : decide (x.f0 < 0) = false := decide_eq_false c2
                have c2' : 0 ≤ x.f0 := by omega
                have em : x.f0.tmod 32 = x.f0 % 32 := Int.tmod_eq_emod_of_nonneg c2'
                by_cases c3 : x.f0 % 32 = 0
                · have b3 : (x.f0 % 32 != 0) = false := by simp [c3]
                  have b3t : (x.f0.tmod 32 != 0) = false := by rw [em]; simp [c3]
                  by_cases c4 : x.f2 < -1
                  · have HE : Sh (decide (lieP m x ∧ -1 ≤ x.f2) = false) := ⟨decide_eq_false (by rw [e1]; omega)⟩
                    have b4 : decide (x.f2 < -1) = true := decide_eq_true c4
                    clear e1 c1 em c3
                    go_wp2
                    go_meet
                    exact ⟨by rw [HE.out]; rfl, rfl⟩
                  · have b4 : decide (x.f2 < -1) = false := decide_eq_false c4
                    by_cases c5 : x.f0 > m
                    · have HE : Sh (decide (lieP m x ∧ -1 ≤ x.f2) = false) := ⟨decide_eq_false (by rw [e1]; omega)⟩
                      have b5 : decide (m < x.f0) = true := decide_eq_true c5
                      clear e1 c1 em c3 c4
                      go_wp2
                      go_meet
                      exact ⟨by rw [HE.out]; rfl, rfl⟩
                    · have b5 : decide (m < x.f0) = false := decide_eq_false c5
                      have HE : Sh (decide (m - x.f0 < wd x.f1) = !decide (lieP m x ∧ -1 ≤ x.f2)) := ⟨by rw [Bool.eq_iff_iff]; simp [e1]; omega⟩
                      have q1 : m - x.f0 ≤ 16384 := by omega
                      have q2 : -16384 ≤ m - x.f0 := by omega
                      clear e1 c1 em c3 c4
                      go_wp2
                      go_meet
                      exact ⟨by rw [← HE.out], rfl⟩
                · have HE : Sh (decide (lieP m x ∧ -1 ≤ x.f2) = false) := ⟨decide_eq_false (by rw [e1]; omega)⟩
                  have b3 : (x.f0 % 32 != 0) = true := by simpa using c3
                  have b3t : (x.f0.tmod 32 != 0) = true := by rw [em]; simpa using c3
                  clear e1 c1 em c3
                  go_wp2
                  go_meet
                  exact ⟨by rw [HE.out]; rfl, rfl⟩
          case rest =>
            obtain ⟨rfl, rfl⟩ := hcut
            cases hb : decide (lieP m x ∧ -1 ≤ x.f2) with
            | false =>
              have HV : Sh (mayL m l = false) := ⟨by
                rw [HM.out, HF.out]
                cases i with
                | zero => rw [ck_zero m l x HX.out, hb]; rfl
                | succ j =>
                  have hj : l[j]? = some l[j] := List.getElem?_eq_getElem (by omega)
                  rw [ck_succ m l j x l[j] HX.out hj, hb]; rfl⟩
              clear hb
              go_wp2
              go_ret
              exact ⟨by rw [HV.out]; rfl, HB.bl⟩
            | true =>
              have hP := of_decide_eq_true hb
              have HPX : Sh (∀ y ∈ l.take (i + 1), lieP m y) := ⟨by
                intro y hy
                obtain ⟨h1, h2⟩ := List.getElem?_eq_some_iff.1 HX.out
                rw [List.take_succ_eq_append_getElem h1, h2] at hy
                rcases List.mem_append.1 hy with hy | hy
                · exact HP.out y hy
                · rcases List.mem_singleton.1 hy with rfl
                  exact hP.1⟩
              cases i with
              | zero =>
                have HV : Sh (ckL m [] l = ckL m (l.take 1) (l.drop 1)) := ⟨by rw [HF.out, ck_zero m l x HX.out, hb]; rfl⟩
                clear hb hP
                go_wp2
                go_quiet (fail)
                go_wp2
                go_roundw
                case rel => exact ⟨1, by omega, by go_num, ⟨HV.out⟩, ⟨HPX.out⟩, HB.draw ⟨_, rfl⟩⟩
                case measure => simp [intOf]; omega
              | succ j =>
                obtain ⟨ad', ea, hy0, hy1, hy2⟩ := at_T48 (Kd.C_below HR.out HB.bl) (j : Int) (by omega) (by omega)
                cases ea
                obtain ⟨y, hy⟩ : ∃ y, y = rd_T48 l (j : Int) := ⟨_, rfl⟩
                rw [← hy] at hy0 hy1 hy2
                rw [Int.toNat_natCast] at hy0 hy1 hy2
                have hyy : l[j]? = some y := by
                  rw [hy, rd_T48, Int.toNat_natCast, List.getD_eq_getElem?_getD, List.getElem?_eq_getElem (by omega)]
                  rfl
                have hly : lieP m y := HP.out y (by
                  obtain ⟨h1, h2⟩ := List.getElem?_eq_some_iff.1 hyy
                  rw [List.take_succ_eq_append_getElem h1, h2]
                  simp)
                have e2 := lie_of (m := m) (x := y)
                rw [e2] at hly
                have hwy := wd_range y.f1
                have q1 : IntKind.i64.wrap (y.f0 + wd y.f1) = y.f0 + wd y.f1 := IntWalk.i64_in _ (by omega)
                have q2 : IntKind.i64.wrap (j : Int) = j := IntWalk.i64_in _ (by omega)
                have HS := Sh.mk (ck_succ m l j x y HX.out hyy)
                have hm2 := HW.out
                cases ho : decide (x.f0 < y.f0 + wd y.f1) with
                | true =>
                  have HV : Sh (mayL m l = false) := ⟨by rw [HM.out, HF.out, HS.out, decide_eq_false (show ¬ (y.f0 + wd y.f1 ≤ x.f0) by have := of_decide_eq_true ho; omega)]; simp⟩
                  clear hb hP hy hyy hly e2
                  go_wp2
                  go_quiet ((go_at_call 17; exact Calls.quiet_of (words_q _ _)))
                  go_wp2
                  go_ret
                  exact ⟨by rw [HV.out]; rfl, (HB.draw ⟨_, rfl⟩).bl⟩
                | false =>
                  have HV : Sh (ckL m [] l = ckL m (l.take (j + 1 + 1)) (l.drop (j + 1 + 1))) := ⟨by rw [HF.out, HS.out, hb, decide_eq_true (show (y.f0 + wd y.f1 ≤ x.f0) by have := of_decide_eq_false ho; omega)]; rfl⟩
                  clear hb hP hy hyy hly e2
                  go_wp2
                  go_quiet ((go_at_call 17; exact Calls.quiet_of (words_q _ _)))
                  go_wp2
                  go_roundw
                  case rel => exact ⟨j + 1 + 1, by omega, by go_num, ⟨HV.out⟩, ⟨HPX.out⟩, HB.draw ⟨_, rfl⟩⟩
                  case measure => simp [intOf]; omega
        · obtain rfl : i = l.length := by omega
          have HV : Sh (mayL m l = true) := ⟨by rw [HM.out, HF.out, List.drop_length]; rfl⟩
          go_wp2
          go_ret
          exact ⟨by rw [HV.out]; rfl, HA.bl⟩
end Go.Proofs.Ytflhbakjlbmfbaa
