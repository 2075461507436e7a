/- The walk of the statement ArenaRaw: of any numbers an arena answers as a list of words. -/
import Derived.Test.YtncmebefgklpjaaDo2
namespace Go.Proofs.Ytncmebefgklpjaa
set_option linter.unusedVariables false
open Go.RowKit Go.Proofs.YtncmebefgklpjaaW.PrintWords Go.Proofs.YtncmebefgklpjaaW.PrintLast Go.Proofs.YtncmebefgklpjaaW.PrintMore

set_option maxRecDepth 100000 in
set_option maxHeartbeats 4000000 in
theorem arenaRaw_walk (a0 a1 a2 a3 a4 : Int) (w : World) (w0 : (Lit.int .i64 a0).wf = true) (w1 : (Lit.int .i64 a1).wf = true) (w2 : (Lit.int .i64 a2).wf = true) (w3 : (Lit.int .i64 a3).wf = true) (w4 : (Lit.int .u64 a4).wf = true) :
    Calls Try.prog 5 #[.int .i64 a0, .int .i64 a1, .int .i64 a2, .int .i64 a3, .int .u64 a4] w fun e w' => e = .returned (.bool true) ∧ Below w.heap.size w w' := by
  clear w0 w1 w2 w3 w4
  by_cases hp : a0 < 1 ∨ 256 < a0
  · have HP := Sh.mk hp
    by_cases h1 : a0 < 1
    · clear hp
      go_enter Try.func5, Try.ntmps5
      go_wp2_with fail
      (with_reducible refine (new_no _ _ HP.out).mono ?_); rintro e w' ⟨rfl, rfl⟩
      go_wp2_with fail
      (with_reducible refine (awake3 _).mono ?_); rintro e w1 ⟨rfl, hb⟩
      have HB := Sh.mk hb
      clear hb
      go_wp2
      go_ret
      exact ⟨rfl, HB.out⟩
    · have h2 : 256 < a0 := by omega
      have h1' : 1 ≤ a0 := by omega
      clear hp h1
      go_enter Try.func5, Try.ntmps5
      go_wp2_with fail
      (with_reducible refine (new_no _ _ HP.out).mono ?_); rintro e w' ⟨rfl, rfl⟩
      go_wp2_with fail
      (with_reducible refine (awake3 _).mono ?_); rintro e w1 ⟨rfl, hb⟩
      have HB := Sh.mk hb
      clear hb
      go_wp2
      go_ret
      exact ⟨rfl, HB.out⟩
  · have h1 : 1 ≤ a0 := by omega
    have h2 : a0 ≤ 256 := by omega
    clear hp
    have hmk := fun w => run_make_u64 (a0 * 64) (by omega) (by omega) w
    go_enter Try.func5, Try.ntmps5
    go_wp2_with fail
    (with_reducible refine (new_any a0 w h1 h2).mono ?_); rintro e w1 ⟨ga, gb, rfl, ha, hga, hgb, hb⟩
    obtain ⟨m0, hm0⟩ : ∃ m0 : List Int, m0 = List.replicate (a0.toNat * 64) 0 := ⟨_, rfl⟩
    rw [← hm0] at ha
    obtain ⟨L, hL⟩ : ∃ L, L = a0.toNat * 64 := ⟨_, rfl⟩
    have hm1 : (m0.length : Int) = a0 * 64 := by rw [hm0, List.length_replicate]; omega
    have hq1 : (((m0.length : Int) / 64) != a0) = false := by rw [bne_eq_false_iff_eq]; omega
    have hq2 : ((m0.length : Int) != a0 * 64) = false := by rw [bne_eq_false_iff_eq]; omega
    have hLN : (a0 * 64).toNat = L := by omega
    rw [hLN] at hmk
    have HM0 : Sh (m0 = List.replicate L 0) := ⟨by rw [hL]; exact hm0⟩
    have HML : Sh (m0.length = L) := ⟨by rw [HM0.out, List.length_replicate]⟩
    have HA := Sh.mk ha
    have HB := Sh.mk hb
    clear ha hb hm0 hm1 hL hLN
    go_wp2_with fail
    (with_reducible refine (pages_any ga gb m0 _ HA.out).mono ?_); rintro e w' ⟨rfl, rfl⟩
    go_wp2_with fail
    (with_reducible refine (len_any ga gb m0 _ HA.out).mono ?_); rintro e w' ⟨rfl, rfl⟩
    have hgm : w.heap.size ≤ w1.heap.size := HB.out.size
    have HT0 : Sh (Twin (w1.alloc (.cells (U64s (List.replicate L 0)) 28)) ga gb w1.heap.size m0) := ⟨⟨HA.out.kp ((Kp.refl [] _).alloc _) (by simp) (by simp), by rw [HM0.out]; exact Blk.new _ _ _, by have := HA.out.ws.lt; omega⟩⟩
    have HB0 : Sh (Below w.heap.size w (w1.alloc (.cells (U64s (List.replicate L 0)) 28))) := ⟨HB.out.alloc hgm _⟩
    go_wp2
    go_loopw [13] (fun i wr => ∃ k : Nat, k ≤ 5 ∧ 1 ≤ k ∧ i = .int .i64 k ∧ ∃ m : List Int, Sh (Twin wr ga gb w1.heap.size m) ∧ Sh (m.length = L) ∧ Sh (Below w.heap.size w wr)) (fun i _ => 5 - (intOf i).toNat)
    case atStart => exact ⟨1, by omega, by omega, rfl, m0, HT0, HML, HB0⟩
    case round =>
      obtain ⟨k, hk, hk0, rfl, m, HT, HL, HBr⟩ := hrel
      by_cases hlt : k < 5
      · go_wp2_with fail
        (with_reducible refine (do_call ga gb w1.heap.size m L HL.out _ _ _ _ _ _ HT.out).mono ?_); rintro e w2 ⟨rfl, m2, g1, g2, g3⟩
        have T2 := Sh.mk g1
        have L2 : Sh (m2.length = L) := ⟨g2.trans HL.out⟩
        have K2 := Sh.mk g3
        clear g1 g2 g3
        go_wp2_with fail
        (with_reducible refine (do_call ga gb w1.heap.size m2 L L2.out _ _ _ _ _ _ T2.out).mono ?_); rintro e w3 ⟨rfl, m3, g1, g2, g3⟩
        have T3 := Sh.mk g1
        have L3 : Sh (m3.length = L) := ⟨g2.trans L2.out⟩
        have K3 := Sh.mk g3
        clear g1 g2 g3
        go_wp2_with fail
        (with_reducible refine (do_call ga gb w1.heap.size m3 L L3.out _ _ _ _ _ _ T3.out).mono ?_); rintro e w4 ⟨rfl, m4, g1, g2, g3⟩
        have T4 := Sh.mk g1
        have L4 : Sh (m4.length = L) := ⟨g2.trans L3.out⟩
        have K4 := Sh.mk g3
        clear g1 g2 g3
        go_wp2
        go_roundw
        case rel => exact ⟨k + 1, by omega, by omega, by go_num, m4, T4, L4, ⟨HBr.out.trans (((K2.out.trans K3.out).trans K4.out).toBelow HBr.out.size (by simp; omega))⟩⟩
        case measure => simp [intOf]; omega
      · obtain rfl : k = 5 := by omega
        have HR : Sh (Kd.C (Kd.int .u64) wr (some ⟨w1.heap.size, 0, none⟩) m.length m) := ⟨C_whole HT.out.ls (by have := HT.out.ar.small; omega)⟩
        have HW : Sh (Calls Try.prog 20 #[.pointer (some ⟨ga, 0, none⟩), .slice (some ⟨w1.heap.size, 0, none⟩) L L] wr fun e w' => e = .returned (.bool true) ∧ Below wr.heap.size wr w') := by
          have := words_yes ga gb m _ m.length _ HT.out.ar HR.out (Nat.le_refl _)
          rw [HL.out] at this
          exact ⟨this⟩
        go_wp2_with fail
        (refine HW.out.mono ?_); rintro e w2 ⟨rfl, h5⟩
        have H5 := Sh.mk h5
        clear h5
        go_wp2_with fail
        (with_reducible refine (awake3 _).mono ?_); rintro e w3 ⟨rfl, h6⟩
        have H6 := Sh.mk h6
        clear h6
        go_wp2
        go_ret
        exact ⟨rfl, below_then (below_then HBr.out HBr.out.size H5.out) (Nat.le_trans HBr.out.size H5.out.size) H6.out⟩
end Go.Proofs.Ytncmebefgklpjaa
