/- The walk of the statement ArenaRuns: whatever is loaded, stored, copied, filled, sliced, an arena answers as a list of words. -/
import Derived.Test.YtncmebefgklpjaaDo2
import Derived.StillTailTactics
namespace Go.Proofs.Ytncmebefgklpjaa
set_option linter.unusedVariables false
open Go.RowKit Go.Proofs.YtncmebefgklpjaaW.PrintWords Go.Proofs.YtncmebefgklpjaaW.PrintLast Go.Proofs.YtncmebefgklpjaaW.PrintMore

theorem u16_range {a : Int} (h : (Lit.int .u16 a).wf = true) : 0 ≤ a ∧ a ≤ 65535 := by
  simpa [Lit.wf, IntKind.min, IntKind.max, IntKind.signed, IntKind.bits] using h
theorem rd0_range {l : List Int} {lo hi : Int} (h : ∀ x ∈ l, lo ≤ x ∧ x ≤ hi) (h0 : lo ≤ 0) (h1 : 0 ≤ hi) (i : Nat) : lo ≤ rd0 l i ∧ rd0 l i ≤ hi := by
  by_cases hi' : i < l.length
  · rw [rd0_get l i hi']
    exact h _ (List.getElem_mem hi')
  · have : rd0 l i = 0 := by unfold rd0; rw [List.getD_eq_getElem?_getD, List.getElem?_eq_none (by omega)]; rfl
    rw [this]; exact ⟨h0, h1⟩

set_option maxRecDepth 100000 in
set_option maxHeartbeats 8000000 in
theorem arenaRuns_walk (a0 : Int) (A1 : Option Addr) (c1 : Nat) (l1 : List Int) (w : World) (w0 : (Lit.int .u8 a0).wf = true) (hr1 : Kd.C (Kd.int .u16) w A1 l1.length l1) (hc1 : l1.length ≤ c1) (hw1 : ∀ x ∈ l1, (Lit.int .u16 x).wf = true) (y1 : l1.length * 2 ≤ 140737488351232) :
    Calls Try.prog 4 #[.int .u8 a0, .slice A1 l1.length c1] w fun e w' => e = .returned (.bool true) ∧ Below w.heap.size w w' := by
  have hb0 : 0 ≤ a0 := by have := w0; simp [Lit.wf, IntKind.min, IntKind.max, IntKind.signed, IntKind.bits] at this; omega
  have hb1 : a0 ≤ 255 := by have := w0; simp [Lit.wf, IntKind.min, IntKind.max, IntKind.signed, IntKind.bits] at this; omega
  have HW1 : Sh (∀ i, 0 ≤ rd0 l1 i ∧ rd0 l1 i ≤ 65535) := ⟨rd0_range (fun x hx => u16_range (hw1 x hx)) (by omega) (by omega)⟩
  have HR := Sh.mk hr1
  have hll : l1.length ≤ 140737488351232 := by omega
  have HNil : Sh (Kd.C (Kd.int .u64) w none ([] : List Int).length ([] : List Int)) := ⟨⟨rfl, by simp, fun h => absurd h (by simp)⟩⟩
  clear w0 hr1 hw1 y1
  have p0 : 1 ≤ 1 + a0 % 3 := by omega
  have p1 : 1 + a0 % 3 ≤ 256 := by omega
  have HLD : Sh (Calls Try.prog 15 #[.int .i64 (1 + a0 % 3), .slice none 0 0] w (LaidPost (laidM ((1 + a0 % 3).toNat * 64) [] (min ([] : List Int).length ((1 + a0 % 3).toNat * 64))) w)) := ⟨laid_any (1 + a0 % 3) none 0 [] w p0 p1 HNil.out (by simp)⟩
  go_enter Try.func4, Try.ntmps4
  go_wp2_with fail
  (refine HLD.out.mono ?_); rintro e w1 ⟨ga, gb, gm, rfl, h1, h2, h3, h4, h5, h6, h7⟩
  obtain ⟨m0, hm0⟩ : ∃ m, m = laidM ((1 + a0 % 3).toNat * 64) ([] : List Int) (min ([] : List Int).length ((1 + a0 % 3).toNat * 64)) := ⟨_, rfl⟩
  rw [← hm0] at h1 h2
  rw [← hm0]
  obtain ⟨L, hL⟩ : ∃ L, L = m0.length := ⟨_, rfl⟩
  have hL1 : 64 ≤ L := by rw [hL, hm0, laidM_len]; omega
  have hL2 : L ≤ 16384 := by rw [hL]; exact h1.small
  have HT0 : Sh (Twin w1 ga gb gm m0) := ⟨⟨h1, h2, h3⟩⟩
  have HL0 : Sh (m0.length = L) := ⟨hL.symm⟩
  rw [← hL]
  have H7 := Sh.mk h7
  clear h1 h2 h7 hm0 hL HLD
  go_wp2
  go_loopw [7] (fun i wr => ∃ k : Nat, k ≤ 505 ∧ i = .int .i64 k ∧ ∃ m : List Int, Sh (Twin wr ga gb gm m) ∧ Sh (m.length = L) ∧ Sh (Below w.heap.size w wr)) (fun i _ => 505 - (intOf i).toNat)
  case atStart => exact ⟨0, by omega, rfl, m0, HT0, HL0, H7⟩
  case round =>
    obtain ⟨k, hk, rfl, m, HT, HL, HB⟩ := hrel
    by_cases hlt : k + 4 < l1.length ∧ k < 500
    · obtain ⟨hl1, hl2⟩ := hlt
      obtain ⟨ad, rfl, hadl, hcell0⟩ := C_cell HR.out k (by omega)
      have hcell : ∀ j, j < 5 → wr.cell? (ad.add (k + j)) = some (.int .u16 (rd0 l1 (k + j))) := fun j hj => by
        obtain ⟨ad', e, _, hc⟩ := C_cell HR.out (k + j) (by omega)
        cases e
        exact (HB.out.cell (by rw [show (ad.add (k + j)).block = ad.block from by unfold Addr.add; split <;> rfl]; exact hadl)).trans hc
      have q0 := hcell 0 (by omega)
      have q1 := hcell 1 (by omega)
      have q2 := hcell 2 (by omega)
      have q3 := hcell 3 (by omega)
      have q4 := hcell 4 (by omega)
      rw [Nat.add_zero] at q0
      have hadd : ∀ j, ad.add (j + 1) = ⟨ad.block, ad.off + (j + 1), none⟩ := fun j => by unfold Addr.add; rw [if_neg (by omega)]
      rw [hadd] at q1 q2 q3 q4
      clear hadd
      have r0 := (HW1.out k).1
      have r0' := (HW1.out k).2
      have r1 := (HW1.out (k + 1)).1
      have r1' := (HW1.out (k + 1)).2
      have r2 := (HW1.out (k + 2)).1
      have r2' := (HW1.out (k + 2)).2
      have r3 := (HW1.out (k + 3)).1
      have r3' := (HW1.out (k + 3)).2
      have r4 := (HW1.out (k + 4)).1
      have r4' := (HW1.out (k + 4)).2
      clear hcell hcell0
      have i0 : (k : Int) < (l1.length : Int) := by omega
      have i1 : (k : Int) + 1 < (l1.length : Int) := by omega
      have i2 : (k : Int) + 2 < (l1.length : Int) := by omega
      have i3 : (k : Int) + 3 < (l1.length : Int) := by omega
      have i4 : (k : Int) + 4 < (l1.length : Int) := by omega
      have z1 : 0 ≤ (k : Int) + 1 := by omega
      have z2 : 0 ≤ (k : Int) + 2 := by omega
      have z3 : 0 ≤ (k : Int) + 3 := by omega
      have z4 : 0 ≤ (k : Int) + 4 := by omega
      have n1 : ((k : Int) + 1).toNat = k + 1 := by omega
      have n2 : ((k : Int) + 2).toNat = k + 2 := by omega
      have n3 : ((k : Int) + 3).toNat = k + 3 := by omega
      have n4 : ((k : Int) + 4).toNat = k + 4 := by omega
      have e1 : IntKind.i64.wrap ((k : Int) + 1) = (k : Int) + 1 := by rw [IntKind.wrap_i64]; omega
      have e2 : IntKind.i64.wrap ((k : Int) + 2) = (k : Int) + 2 := by rw [IntKind.wrap_i64]; omega
      have e3 : IntKind.i64.wrap ((k : Int) + 3) = (k : Int) + 3 := by rw [IntKind.wrap_i64]; omega
      have e4 : IntKind.i64.wrap ((k : Int) + 4) = (k : Int) + 4 := by rw [IntKind.wrap_i64]; omega
      have e5 : IntKind.i64.wrap ((L : Int) + 3) = (L : Int) + 3 := by rw [IntKind.wrap_i64]; omega
      have e6 : ¬ ((L : Int) + 3 = 0) := by omega
      go_wp2
      have HT1 : Sh (Twin wr.drew ga gb gm m) := ⟨HT.out.kp ((Kp.refl [] _).drew) (by simp) (by simp) (by simp)⟩
      have HB1 : Sh (Below w.heap.size w wr.drew) := ⟨HB.out.drew⟩
      go_still_tail 48, (by kernel_rfl)
      change wpList _ _ _ _ _ wr.drew
      generalize wr.drew = wq at HT1 HB1
      clear q0 q1 q2 q3 q4 HT HB
      go_wp2_with fail
      (with_reducible refine (do_call ga gb gm m L HL.out _ _ _ _ _ _ HT1.out).mono ?_); rintro e w2 ⟨rfl, m2, g1, g2, g3⟩
      have T2 := Sh.mk g1
      have L2 : Sh (m2.length = L) := ⟨g2.trans HL.out⟩
      have K2 := Sh.mk g3
      clear g1 g2 g3
      go_wp2
      go_roundw
      case rel => exact ⟨k + 5, by omega, by go_num, m2, T2, L2, ⟨HB1.out.trans (K2.out.toBelow HB1.out.size (by simp; omega))⟩⟩
      case measure => simp [intOf]; omega
    · have HR : Sh (Kd.C (Kd.int .u64) wr (some ⟨gm, 0, none⟩) m.length m) := ⟨C_whole HT.out.ls (by have := HT.out.ar.small; omega)⟩
      have HW : Sh (Calls Try.prog 20 #[.pointer (some ⟨ga, 0, none⟩), .slice (some ⟨gm, 0, none⟩) L L] wr fun e w' => e = .returned (.bool true) ∧ Below wr.heap.size wr w') := by
        have := words_yes ga gb m _ m.length _ HT.out.ar HR.out (Nat.le_refl _)
        rw [HL.out] at this
        exact ⟨this⟩
      have HN := Sh.mk hlt
      clear hlt
      by_cases hl1 : (k : Int) + 4 < (l1.length : Int)
      · have hl2 : 500 ≤ k := by have := HN.out; omega
        go_wp2_with fail
        (refine HW.out.mono ?_); rintro e w2 ⟨rfl, h5⟩
        have H5 := Sh.mk h5
        clear h5
        go_wp2_with fail
        (with_reducible refine (awake3 _).mono ?_); rintro e w3 ⟨rfl, h6⟩
        have H6 := Sh.mk h6
        clear h6
        go_wp2
        go_ret
        exact ⟨rfl, below_then (below_then HB.out HB.out.size H5.out) (Nat.le_trans HB.out.size H5.out.size) H6.out⟩
      · go_wp2_with fail
        (refine HW.out.mono ?_); rintro e w2 ⟨rfl, h5⟩
        have H5 := Sh.mk h5
        clear h5
        go_wp2_with fail
        (with_reducible refine (awake3 _).mono ?_); rintro e w3 ⟨rfl, h6⟩
        have H6 := Sh.mk h6
        clear h6
        go_wp2
        go_ret
        exact ⟨rfl, below_then (below_then HB.out HB.out.size H5.out) (Nat.le_trans HB.out.size H5.out.size) H6.out⟩
end Go.Proofs.Ytncmebefgklpjaa
