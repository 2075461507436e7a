/- The statements' example. No statement is proved here. -/
import Derived.Test.YtpddppipjlagfaaLinOrder
import Derived.Test.YtpddppipjlagfaaOpFunc
import Derived.Test.YtpddppipjlagfaaPrx16
namespace Go.Proofs.Ytpddppipjlagfaa
set_option linter.unusedVariables false
set_option linter.unusedSimpArgs false
open Go.RowKit Go.Proofs.YtpddppipjlagfaaW.PrintWords Go.Proofs.YtpddppipjlagfaaW.PrintLast Go.Proofs.YtpddppipjlagfaaW.PrintMore Pr Go.Proofs.Ytpddppipjlagfaa.Pure Go.Proofs.Ytpddppipjlagfaa.Dfs

def exL : List Oq := [⟨⟨2, 0, 0, 0⟩, 2, 3⟩, ⟨⟨1, 32, 0, 0⟩, 0, 1⟩]
theorem ex_fits : fitsB 64 exL [1, 0] = true := by decide +kernel
theorem ex_ord : ordP 64 exL (some [1, 0]) := by
  unfold ordP
  rw [if_pos ⟨by decide +kernel, by decide⟩]
  refine ⟨ex_fits, fun Q hQ => ?_⟩
  have h := (fits_iff (upI Q)).1 hQ
  obtain ⟨-, h2, h3, h4, -⟩ := h
  rw [placesB_iff] at h2
  have e0 : (0 : Int) ∈ upI Q := by
    have := List.all_eq_true.1 h3 0 (by decide)
    simpa [exL, opL, rd_T40, endB] using this
  have e1 : (1 : Int) ∈ upI Q := by
    have := List.all_eq_true.1 h3 1 (by decide)
    simpa [exL, opL, rd_T40, endB] using this
  have hl := places_len ((placesB_iff exL (upI Q)).2 h2)
  rw [upI_len] at hl
  have hl : Q.length ≤ 2 := hl
  have e0' : 0 ∈ Q := upI_mem.1 e0
  have e1' : 1 ∈ Q := upI_mem.1 e1
  match Q, hl with
  | [], _ => cases e0'
  | [x], _ => simp at e0' e1'; omega
  | [x, y], _ =>
    simp only [List.mem_cons, List.not_mem_nil, or_false] at e0' e1'
    have hx : (x = 1 ∧ y = 0) ∨ (x = 0 ∧ y = 1) := by omega
    rcases hx with ⟨rfl, rfl⟩ | ⟨rfl, rfl⟩
    · exact left_refl _
    · exact absurd h4 (by decide +kernel)
theorem sameInts_from (l : List Int) (hl : l.length ≤ 1000) (d : Nat) : ∀ (k : Nat) (i : Int), 0 ≤ i → i ≤ l.length → (l.length : Int) - i = d → d < k → Pr.rickyardref1_SameInts.l0 k l l i = some true := by
  induction d with
  | zero =>
    intro k i h0 h1 hd hk
    obtain ⟨k, rfl⟩ : ∃ m, k = m + 1 := ⟨k - 1, by omega⟩
    simp only [Pr.rickyardref1_SameInts.l0]
    rw [if_neg (by omega)]
  | succ d ih =>
    intro k i h0 h1 hd hk
    obtain ⟨k, rfl⟩ : ∃ m, k = m + 1 := ⟨k - 1, by omega⟩
    simp only [Pr.rickyardref1_SameInts.l0]
    rw [if_pos (by omega), if_pos h0, if_pos (by omega), if_pos trivial, w64 (by omega) (by omega)]
    exact ih k (i + 1) (by omega) (by omega) (by omega) (by omega)
theorem sameInts_refl (l : List Int) (hl : l.length ≤ 1000) : Pr.rickyardref1_SameInts.f (l.length + 1) l l = some true := by
  unfold Pr.rickyardref1_SameInts.f
  rw [if_pos rfl]
  exact sameInts_from l hl l.length _ 0 (by omega) (by omega) (by omega) (by omega)
theorem same_any (l : List Int) (hl : l.length ≤ 1000) (A0 : Option Addr) (c0 : Nat) (A1 : Option Addr) (c1 : Nat) (w : World) (h0 : Kd.C (Kd.int .i64) w A0 l.length l) (hc0 : l.length ≤ c0) (h1 : Kd.C (Kd.int .i64) w A1 l.length l) (hc1 : l.length ≤ c1) :
    Calls Try.prog 19 #[.slice A0 l.length c0, .slice A1 l.length c1] w fun e w' => e = .returned (.bool true) ∧ Below w.heap.size w w' :=
  (rickyardref1_SameInts.calls (l.length + 1) A0 c0 l A1 c1 l true w h0 hc0 h1 hc1 (sameInts_refl l hl)).mono (fun e w' ⟨h1, h2⟩ => ⟨h1, h2.below⟩)
set_option maxRecDepth 100000 in
set_option maxHeartbeats 8000000 in
theorem lsame_any (m : Int) (A : Option Addr) (c : Nat) (l : List Oq) (B : Option Addr) (cB : Nat) (o : List Int) (w : World) (hm : mOk m) (hr : Kd.C k40 w A l.length l) (hc : l.length ≤ c) (ho : Kd.C (Kd.int .i64) w B o.length o) (hcB : o.length ≤ cB) (hl : l.length ≤ 500) (hol : o.length ≤ 1000) :
    Calls Try.prog 10 #[.int .i64 m, .slice A l.length c, .slice B o.length cB] w fun e w' => e = .returned (.bool true) ∧ Below w.heap.size w w' := by
  have HR := Sh.mk hr
  have HO := Sh.mk ho
  have HM := Sh.mk hm
  clear hr ho hm
  go_enter Try.func10, Try.ntmps10
  go_wp2_with fail
  (with_reducible refine (order_any m A c l w HM.out HR.out hc hl).mono ?_); rintro e w1 ⟨r, hr, v, rfl, hv, b⟩
  have B1 := Sh.mk b
  obtain ⟨os, hos⟩ : ∃ os, os = upI (r.getD []) := ⟨_, rfl⟩
  obtain ⟨is, his⟩ : ∃ is, is = r.isSome := ⟨_, rfl⟩
  have HOR := Sh.mk hr
  rw [← hos] at hv
  obtain ⟨A1, c1, rfl⟩ := Kd.R_slice hv
  have HV := Sh.mk (Kd.R_reads' hv)
  have hosl : os.length ≤ 500 := by
    rw [hos, upI_len]
    cases r with
    | none => exact Nat.zero_le _
    | some P =>
      have h := (mayB_of hr rfl).2.2
      have := places_len ((fits_iff _).1 h).2.1
      rw [upI_len] at this
      exact Nat.le_trans this hl
  rw [← his]
  have HIS := Sh.mk his
  have HOS := Sh.mk hos
  clear b hv hr his hos
  go_wp2_with fail
  (with_reducible refine (rorder_any m A c l w1 HM.out (Kd.C_below HR.out B1.out) hc hl).mono ?_); rintro e w2 ⟨s, hs, v2, rfl, hv, b⟩
  have HB2 := Sh.mk b
  have B2 : Sh (Below w.heap.size w w2) := ⟨below_then B1.out B1.out.size b⟩
  obtain rfl := ordP_uniq HOR.out hs
  rw [← HOS.out] at hv
  obtain ⟨A2, c2, rfl⟩ := Kd.R_slice hv
  have HV2 := Sh.mk (Kd.R_reads' hv)
  rw [← HIS.out]
  obtain ⟨km, hkm⟩ := (rmay_ev l (by omega)).rounds
  have HMB := Sh.mk (rickyardref26_MayOps.calls km A c l (mayB l))
  have HKM := Sh.mk hkm
  clear b hv hs hkm
  go_wp2_with fail
  (with_reducible refine (lin_May.calls A c l (mayB l) w2 (Kd.C_below HR.out B2.out) hc (mayl_is l (by omega))).mono ?_); rintro e w3 ⟨rfl, b⟩
  have B3 : Sh (Below w.heap.size w w3) := ⟨below_then B2.out B2.out.size b⟩
  have HB3 : Sh (Below w2.heap.size w2 w3) := ⟨b⟩
  clear b
  go_wp2_with fail
  (with_reducible refine (HMB.out w3 (Kd.C_below HR.out B3.out) hc HKM.out).mono ?_); rintro e w4 ⟨rfl, b⟩
  have B4 : Sh (Below w.heap.size w w4) := ⟨below_then B3.out B3.out.size b⟩
  have HB4 : Sh (Below w2.heap.size w2 w4) := ⟨below_then HB3.out HB3.out.size b⟩
  clear b
  have e1 : (mayB l == mayB l) = true := by simp
  go_wp2_with fail
  (with_reducible refine (fits_any m A c l B cB o w4 HM.out (Kd.C_below HR.out B4.out) hc (Kd.C_below HO.out B4.out) hcB hl hol).mono ?_); rintro e w5 ⟨rfl, b⟩
  have B5 : Sh (Below w.heap.size w w5) := ⟨below_then B4.out B4.out.size b⟩
  have HB5 : Sh (Below w2.heap.size w2 w5) := ⟨below_then HB4.out HB4.out.size b⟩
  clear b
  go_wp2_with fail
  (with_reducible refine (rfits_any m A c l B cB o w5 HM.out (Kd.C_below HR.out B5.out) hc (Kd.C_below HO.out B5.out) hcB hl hol).mono ?_); rintro e w6 ⟨rfl, b⟩
  have B6 : Sh (Below w.heap.size w w6) := ⟨below_then B5.out B5.out.size b⟩
  have HB6 : Sh (Below w2.heap.size w2 w6) := ⟨below_then HB5.out HB5.out.size b⟩
  clear b
  have e2 : (fitsB m l o == fitsB m l o) = true := by simp
  have HB7 : Sh (Below w1.heap.size w1 w6) := ⟨below_then HB2.out HB2.out.size HB6.out⟩
  go_wp2_with fail
  (with_reducible refine (same_any os (by omega) A1 c1 A2 c2 w6 (Kd.C_below HV.out.2.2 HB7.out) HV.out.2.1 (Kd.C_below HV2.out.2.2 HB6.out) HV2.out.2.1).mono ?_); rintro e w7 ⟨rfl, b⟩
  have B7 : Sh (Below w.heap.size w w7) := ⟨below_then B6.out B6.out.size b⟩
  clear b
  have e3 : (is == is) = true := by simp
  go_wp2
  go_ret
  exact ⟨by first | rfl | simp, B7.out⟩
theorem C_ex {W : World} {g : Nat} (hb : W.heap[g]? = some (.cells #[.int .i64 2, .int .i64 0, .int .i64 0, .int .i64 0, .int .i64 2, .int .i64 3, .int .i64 1, .int .i64 32, .int .i64 0, .int .i64 0, .int .i64 0, .int .i64 1] 40 (0, 0))) : Kd.C k40 W (some ⟨g, 0, none⟩) exL.length exL :=
  (Kd.R_reads' (R_of_ownE_op (l := exL) (base := g) (ok := fun _ => True) (v := .slice (some ⟨g, 0, none⟩) 2 2) ⟨rfl, .inr ⟨g, 2, _, rfl, Nat.le_refl _, hb, Nat.le_refl _, by decide, rfl, rfl⟩⟩ (fun _ _ => trivial))).2.2
theorem C_two {W : World} {g : Nat} (hb : W.heap[g]? = some (.cells #[.int .i64 1, .int .i64 0] 3 (0, 0))) : Kd.C (Kd.int .i64) W (some ⟨g, 0, none⟩) ([1, 0] : List Int).length [1, 0] := by
  have h : Kd.R (Kd.int .i64) 3 W g (fun _ => True) (.slice (some ⟨g, 0, none⟩) 2 2) ([1, 0] : List Int) :=
    ⟨fun _ _ => trivial, [.int .i64 1, .int .i64 0], ⟨rfl, .inr ⟨g, 2, #[.int .i64 1, .int .i64 0], rfl, Nat.le_refl _, hb, Nat.le_refl _, by decide, rfl, rfl⟩⟩, ⟨rfl, fun j p hj => by
      match j, hj with
      | 0, hj => obtain rfl : (1 : Int) = p := by simpa using hj
                 rfl
      | 1, hj => obtain rfl : (0 : Int) = p := by simpa using hj
                 rfl
      | j + 2, hj => simp at hj⟩⟩
  exact (Kd.R_reads' h).2.2
set_option maxRecDepth 100000 in
set_option maxHeartbeats 8000000 in
theorem lawake_any (w : World) : Calls Try.prog 9 #[] w fun e w' => e = .returned (.bool true) ∧ Below w.heap.size w w' := by
  have hu := Try.underlying40
  have hu3 := Try.underlying38
  have hm : mOk 64 := by decide
  have HM := Sh.mk hm
  have HA : Sh ((((w.alloc (.cells #[.int .i64 1, .int .i64 32, .int .i64 0, .int .i64 0, .int .i64 0, .int .i64 1] 40)).alloc (.cells #[.int .i64 2, .int .i64 0, .int .i64 0, .int .i64 0, .int .i64 2, .int .i64 3] 40)).alloc (.cells #[.int .i64 2, .int .i64 0, .int .i64 0, .int .i64 0, .int .i64 2, .int .i64 3, .int .i64 1, .int .i64 32, .int .i64 0, .int .i64 0, .int .i64 0, .int .i64 1] 40)).heap[w.heap.size]? = some (.cells #[.int .i64 1, .int .i64 32, .int .i64 0, .int .i64 0, .int .i64 0, .int .i64 1] 40 (0, 0))) := ⟨blk_alloc (blk_alloc (blk_new _ _) _) _⟩
  have HB : Sh ((((w.alloc (.cells #[.int .i64 1, .int .i64 32, .int .i64 0, .int .i64 0, .int .i64 0, .int .i64 1] 40)).alloc (.cells #[.int .i64 2, .int .i64 0, .int .i64 0, .int .i64 0, .int .i64 2, .int .i64 3] 40)).alloc (.cells #[.int .i64 2, .int .i64 0, .int .i64 0, .int .i64 0, .int .i64 2, .int .i64 3, .int .i64 1, .int .i64 32, .int .i64 0, .int .i64 0, .int .i64 0, .int .i64 1] 40)).heap[w.heap.size + 1]? = some (.cells #[.int .i64 2, .int .i64 0, .int .i64 0, .int .i64 0, .int .i64 2, .int .i64 3] 40 (0, 0))) := ⟨blk_alloc (by have h := blk_new (w.alloc (.cells #[.int .i64 1, .int .i64 32, .int .i64 0, .int .i64 0, .int .i64 0, .int .i64 1] 40)) (.cells #[.int .i64 2, .int .i64 0, .int .i64 0, .int .i64 0, .int .i64 2, .int .i64 3] 40); simpa using h) _⟩
  have HE : Sh ((((w.alloc (.cells #[.int .i64 1, .int .i64 32, .int .i64 0, .int .i64 0, .int .i64 0, .int .i64 1] 40)).alloc (.cells #[.int .i64 2, .int .i64 0, .int .i64 0, .int .i64 0, .int .i64 2, .int .i64 3] 40)).alloc (.cells #[.int .i64 2, .int .i64 0, .int .i64 0, .int .i64 0, .int .i64 2, .int .i64 3, .int .i64 1, .int .i64 32, .int .i64 0, .int .i64 0, .int .i64 0, .int .i64 1] 40)).heap[w.heap.size + 1 + 1]? = some (.cells #[.int .i64 2, .int .i64 0, .int .i64 0, .int .i64 0, .int .i64 2, .int .i64 3, .int .i64 1, .int .i64 32, .int .i64 0, .int .i64 0, .int .i64 0, .int .i64 1] 40 (0, 0))) := ⟨by have h := blk_new ((w.alloc (.cells #[.int .i64 1, .int .i64 32, .int .i64 0, .int .i64 0, .int .i64 0, .int .i64 1] 40)).alloc (.cells #[.int .i64 2, .int .i64 0, .int .i64 0, .int .i64 0, .int .i64 2, .int .i64 3] 40)) (.cells #[.int .i64 2, .int .i64 0, .int .i64 0, .int .i64 0, .int .i64 2, .int .i64 3, .int .i64 1, .int .i64 32, .int .i64 0, .int .i64 0, .int .i64 0, .int .i64 1] 40); simpa using h⟩
  have HOA : Sh (Calls Try.prog 13 #[.int .i64 64, .slice (some ⟨w.heap.size + 1 + 1, 0, none⟩) 2 2] (((w.alloc (.cells #[.int .i64 1, .int .i64 32, .int .i64 0, .int .i64 0, .int .i64 0, .int .i64 1] 40)).alloc (.cells #[.int .i64 2, .int .i64 0, .int .i64 0, .int .i64 0, .int .i64 2, .int .i64 3] 40)).alloc (.cells #[.int .i64 2, .int .i64 0, .int .i64 0, .int .i64 0, .int .i64 2, .int .i64 3, .int .i64 1, .int .i64 32, .int .i64 0, .int .i64 0, .int .i64 0, .int .i64 1] 40)) (OrdPost 64 exL (((w.alloc (.cells #[.int .i64 1, .int .i64 32, .int .i64 0, .int .i64 0, .int .i64 0, .int .i64 1] 40)).alloc (.cells #[.int .i64 2, .int .i64 0, .int .i64 0, .int .i64 0, .int .i64 2, .int .i64 3] 40)).alloc (.cells #[.int .i64 2, .int .i64 0, .int .i64 0, .int .i64 0, .int .i64 2, .int .i64 3, .int .i64 1, .int .i64 32, .int .i64 0, .int .i64 0, .int .i64 0, .int .i64 1] 40)))) := ⟨order_any 64 (some ⟨w.heap.size + 1 + 1, 0, none⟩) 2 exL _ HM.out (C_ex HE.out) (by decide) (by decide)⟩
  have HW : Sh (Below w.heap.size w (((w.alloc (.cells #[.int .i64 1, .int .i64 32, .int .i64 0, .int .i64 0, .int .i64 0, .int .i64 1] 40)).alloc (.cells #[.int .i64 2, .int .i64 0, .int .i64 0, .int .i64 0, .int .i64 2, .int .i64 3] 40)).alloc (.cells #[.int .i64 2, .int .i64 0, .int .i64 0, .int .i64 0, .int .i64 2, .int .i64 3, .int .i64 1, .int .i64 32, .int .i64 0, .int .i64 0, .int .i64 0, .int .i64 1] 40))) := ⟨below_alloc (below_alloc (below_alloc (Below.refl _ _) _) _) _⟩
  clear hm
  go_enter Try.func9, Try.ntmps9
  go_wp2_with fail
  (with_reducible refine HOA.out.mono ?_); rintro e w1 ⟨r, hr, v, rfl, hv, bb⟩
  obtain rfl := ordP_uniq hr ex_ord
  rw [show upI ((some [1, 0] : Option (List Nat)).getD []) = [1, 0] from rfl] at hv
  obtain ⟨A1, c1, rfl⟩ := Kd.R_slice hv
  have HV := Sh.mk (Kd.R_reads' hv)
  have HA1 := Sh.mk (blk_below HA.out bb)
  have HB1 := Sh.mk (blk_below HB.out bb)
  have HW1 : Sh (Below w.heap.size w w1) := ⟨below_step HW.out bb⟩
  clear bb hv hr HA HB HE HW
  have HT : Sh ((w1.alloc (.cells #[.int .i64 1, .int .i64 0] 3)).heap[w1.heap.size]? = some (.cells #[.int .i64 1, .int .i64 0] 3 (0, 0))) := ⟨blk_new _ _⟩
  have HSA : Sh (Calls Try.prog 19 #[.slice A1 2 c1, .slice (some ⟨w1.heap.size, 0, none⟩) 2 2] (w1.alloc (.cells #[.int .i64 1, .int .i64 0] 3)) fun e w' => e = .returned (.bool true) ∧ Below (w1.alloc (.cells #[.int .i64 1, .int .i64 0] 3)).heap.size (w1.alloc (.cells #[.int .i64 1, .int .i64 0] 3)) w') := ⟨same_any [1, 0] (by decide) A1 c1 (some ⟨w1.heap.size, 0, none⟩) 2 _ (Kd.C_alloc HV.out.2.2 _) HV.out.2.1 (C_two HT.out) (by decide)⟩
  go_wp2_with fail
  (with_reducible refine HSA.out.mono ?_); rintro e w2 ⟨rfl, bb⟩
  have BB2 : Sh (Below w1.heap.size w1 w2) := ⟨below_step (below_alloc (Below.refl _ _) _) bb⟩
  have HW2 : Sh (Below w.heap.size w w2) := ⟨below_then HW1.out HW1.out.size BB2.out⟩
  have HA2 := Sh.mk (blk_below HA1.out BB2.out)
  have HB2 := Sh.mk (blk_below HB1.out BB2.out)
  clear bb
  have a0 : w2.cell? ⟨w.heap.size, 0, none⟩ = some (.int .i64 1) := (blk_cell HA2.out 0).trans rfl
  have a1 : w2.cell? ⟨w.heap.size, 1, none⟩ = some (.int .i64 32) := (blk_cell HA2.out 1).trans rfl
  have a2 : w2.cell? ⟨w.heap.size, 2, none⟩ = some (.int .i64 0) := (blk_cell HA2.out 2).trans rfl
  have a3 : w2.cell? ⟨w.heap.size, 3, none⟩ = some (.int .i64 0) := (blk_cell HA2.out 3).trans rfl
  have a4 : w2.cell? ⟨w.heap.size, 4, none⟩ = some (.int .i64 0) := (blk_cell HA2.out 4).trans rfl
  have a5 : w2.cell? ⟨w.heap.size, 5, none⟩ = some (.int .i64 1) := (blk_cell HA2.out 5).trans rfl
  have b0 : w2.cell? ⟨w.heap.size + 1, 0, none⟩ = some (.int .i64 2) := (blk_cell HB2.out 0).trans rfl
  have b1 : w2.cell? ⟨w.heap.size + 1, 1, none⟩ = some (.int .i64 0) := (blk_cell HB2.out 1).trans rfl
  have b2 : w2.cell? ⟨w.heap.size + 1, 2, none⟩ = some (.int .i64 0) := (blk_cell HB2.out 2).trans rfl
  have b3 : w2.cell? ⟨w.heap.size + 1, 3, none⟩ = some (.int .i64 0) := (blk_cell HB2.out 3).trans rfl
  have b4 : w2.cell? ⟨w.heap.size + 1, 4, none⟩ = some (.int .i64 2) := (blk_cell HB2.out 4).trans rfl
  have b5 : w2.cell? ⟨w.heap.size + 1, 5, none⟩ = some (.int .i64 3) := (blk_cell HB2.out 5).trans rfl
  have HFA : Sh (Calls Try.prog 14 #[.int .i64 64, .slice (some ⟨w2.heap.size, 0, none⟩) 2 2, .slice A1 2 c1] (w2.alloc (.cells #[.int .i64 2, .int .i64 0, .int .i64 0, .int .i64 0, .int .i64 2, .int .i64 3, .int .i64 1, .int .i64 32, .int .i64 0, .int .i64 0, .int .i64 0, .int .i64 1] 40)) fun e w' => e = .returned (.bool (fitsB 64 exL [1, 0])) ∧ Below (w2.alloc (.cells #[.int .i64 2, .int .i64 0, .int .i64 0, .int .i64 0, .int .i64 2, .int .i64 3, .int .i64 1, .int .i64 32, .int .i64 0, .int .i64 0, .int .i64 0, .int .i64 1] 40)).heap.size (w2.alloc (.cells #[.int .i64 2, .int .i64 0, .int .i64 0, .int .i64 0, .int .i64 2, .int .i64 3, .int .i64 1, .int .i64 32, .int .i64 0, .int .i64 0, .int .i64 0, .int .i64 1] 40)) w') := ⟨fits_any 64 (some ⟨w2.heap.size, 0, none⟩) 2 exL A1 c1 [1, 0] _ HM.out (C_ex (blk_new _ _)) (by decide) (Kd.C_alloc (Kd.C_below HV.out.2.2 BB2.out) _) HV.out.2.1 (by decide) (by decide)⟩
  go_wp2_with fail
  (with_reducible refine HFA.out.mono ?_); rintro e w3 ⟨rfl, bb⟩
  rw [ex_fits]
  have HW3 : Sh (Below w.heap.size w w3) := ⟨below_step (below_alloc HW2.out _) bb⟩
  clear bb
  go_wp2
  go_ret
  exact ⟨rfl, HW3.out⟩
end Go.Proofs.Ytpddppipjlagfaa
