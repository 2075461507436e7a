/- The walk of the statement ArenaCopies: behind a copy each word is what stood at its place, or at the place it was copied from. -/
import Derived.Test.YtncmebefgklpjaaLaw3
namespace Go.Proofs.Ytncmebefgklpjaa
set_option linter.unusedVariables false
open Go.RowKit Go.Proofs.YtncmebefgklpjaaW.PrintWords Go.Proofs.YtncmebefgklpjaaW.PrintLast Go.Proofs.YtncmebefgklpjaaW.PrintMore
attribute [local go_sem] max2_mx min2_mn max_two min_two

theorem u8_range {a : Int} (h : (Lit.int .u8 a).wf = true) : 0 ≤ a ∧ a ≤ 255 := by
  simpa [Lit.wf, IntKind.min, IntKind.max, IntKind.signed, IntKind.bits] using h

set_option maxRecDepth 100000 in
set_option maxHeartbeats 4000000 in
theorem arenaCopies_walk (A0 : Option Addr) (c0 : Nat) (l0 : List Int) (a1 a2 a3 : Int) (w : World) (hr0 : Kd.C (Kd.int .u64) w A0 l0.length l0) (hc0 : l0.length ≤ c0) (hw0 : ∀ x ∈ l0, (Lit.int .u64 x).wf = true) (y0 : l0.length * 8 ≤ 140737488351232)
    (w1 : (Lit.int .u8 a1).wf = true) (w2 : (Lit.int .u8 a2).wf = true) (w3 : (Lit.int .u8 a3).wf = true) :
    Calls Try.prog 3 #[.slice A0 l0.length c0, .int .u8 a1, .int .u8 a2, .int .u8 a3] w fun e w' => e = .returned (.bool true) ∧ Below w.heap.size w w' := by
  obtain ⟨b1, b1'⟩ := u8_range w1
  obtain ⟨b2, b2'⟩ := u8_range w2
  obtain ⟨b3, b3'⟩ := u8_range w3
  clear w1 w2 w3 hw0
  have HR := Sh.mk hr0
  have hl : l0.length ≤ 17592186044416 := by omega
  clear hr0 y0
  have hx0 : 0 ≤ mx (a1 % 128) (a2 % 128) := by unfold mx; omega
  have hx1 : mx (a1 % 128) (a2 % 128) ≤ 127 := by unfold mx; omega
  go_enter Try.func3, Try.ntmps3
  go_wp2_with fail
  (with_reducible refine (laid_any 2 A0 c0 l0 w (by omega) (by omega) HR.out hl).mono ?_); rintro e w1 ⟨ga, gb, gm, rfl, h1, h2, h3, h4, h5, h6, h7⟩
  obtain ⟨m, hm⟩ : ∃ m, m = laidM ((2 : Int).toNat * 64) l0 (min l0.length ((2 : Int).toNat * 64)) := ⟨_, rfl⟩
  rw [← hm] at h1 h2
  have hml : m.length = 128 := by rw [hm, laidM_len]; rfl
  rw [← hm, hml]
  have H1 := Sh.mk h1
  have H2 := Sh.mk h2
  have H7 := Sh.mk h7
  have HML := Sh.mk hml
  clear h1 h2 h7 hm hml
  go_wp2_with fail
  obtain ⟨f, hf⟩ : ∃ f : Nat, (f : Int) = a1 % 128 := ⟨(a1 % 128).toNat, by omega⟩
  obtain ⟨t, ht⟩ : ∃ t : Nat, (t : Int) = a2 % 128 := ⟨(a2 % 128).toNat, by omega⟩
  obtain ⟨k, hk⟩ : ∃ k : Nat, (k : Int) = mn a3 (128 - mx (a1 % 128) (a2 % 128)) := ⟨(mn a3 (128 - mx (a1 % 128) (a2 % 128))).toNat, by unfold mn; omega⟩
  have hf1 : f + k ≤ 128 := by unfold mn mx at hk; omega
  have ht1 : t + k ≤ 128 := by unfold mn mx at hk; omega
  rw [← hk, ← hf, ← ht]
  clear hf ht hk
  have HT1 : Sh (There m.length t k) := ⟨by rw [HML.out]; exact ⟨by omega, by omega, by omega, by omega⟩⟩
  have HT2 : Sh (There m.length f k) := ⟨by rw [HML.out]; exact ⟨by omega, by omega, by omega, by omega⟩⟩
  (with_reducible refine (copy_in ga gb m _ _ _ _ H1.out HT1.out HT2.out).mono ?_); rintro e w2 ⟨rfl, h8, h9⟩
  rw [Int.toNat_natCast, Int.toNat_natCast, Int.toNat_natCast] at h8
  have H8 := Sh.mk h8
  have H9 := Sh.mk h9
  have H10 : Sh (Blk w2 gm 28 (U64s m)) := ⟨H2.out.kp h9 (by simpa using h3)⟩
  have H11 : Sh (Below w.heap.size w w2) := ⟨H7.out.trans (h9.toBelow H7.out.size (by simp; exact h5))⟩
  clear h8 h9
  go_wp2
  go_loop [14] (fun i => ∃ q : Nat, q ≤ 128 ∧ i = .int .i64 q) (fun i => 128 - (intOf i).toNat)
  case atStart => exact ⟨0, by omega, rfl⟩
  case round =>
    obtain ⟨q, hq, rfl⟩ := hrel
    by_cases hlt : q < 128
    · have hc1 : w2.cell? ⟨gm, q, none⟩ = some (.int .u64 (rd0 m q)) := by rw [H10.out.cell]; exact U64s_at m q (by rw [HML.out]; exact hlt)
      have hll : (q : Int) < ((copyM m t f k).length : Int) := by rw [copyM_len m _ _ _ (by rw [HML.out]; exact ht1) (by rw [HML.out]; exact hf1), HML.out]; omega
      by_cases hin : t ≤ q ∧ q < t + k
      · obtain ⟨i1, i2⟩ := hin
        have hc2 : w2.cell? ⟨gm, f + q - t, none⟩ = some (.int .u64 (rd0 m (f + q - t))) := by rw [H10.out.cell]; exact U64s_at m _ (by rw [HML.out]; omega)
        have hval : rd0 (copyM m t f k) q = rd0 m (f + q - t) := by rw [copyM_at m t f k q (by rw [HML.out]; exact ht1) (by rw [HML.out]; exact hf1) (by rw [HML.out]; exact hlt), if_pos ⟨i1, i2⟩]
        have HV := Sh.mk hval
        clear hval
        go_wp2_with fail
        (with_reducible refine (load_in ga gb _ _ _ H8.out (by omega) hll).mono ?_); rintro e w' ⟨rfl, rfl⟩
        rw [Int.toNat_natCast, HV.out]
        go_wp2
        go_round
        case rel => exact ⟨q + 1, by omega, by go_num⟩
        case measure => simp [intOf]; omega
      · have hval : rd0 (copyM m t f k) q = rd0 m q := by rw [copyM_at m t f k q (by rw [HML.out]; exact ht1) (by rw [HML.out]; exact hf1) (by rw [HML.out]; exact hlt), if_neg hin]
        have HV := Sh.mk hval
        clear hval
        by_cases i1 : t ≤ q
        · have i2 : t + k ≤ q := by omega
          clear hin
          go_wp2_with fail
          (with_reducible refine (load_in ga gb _ _ _ H8.out (by omega) hll).mono ?_); rintro e w' ⟨rfl, rfl⟩
          rw [Int.toNat_natCast, HV.out]
          go_wp2
          go_round
          case rel => exact ⟨q + 1, by omega, by go_num⟩
          case measure => simp [intOf]; omega
        · have i2 : q < t := by omega
          clear hin i1
          go_wp2_with fail
          (with_reducible refine (load_in ga gb _ _ _ H8.out (by omega) hll).mono ?_); rintro e w' ⟨rfl, rfl⟩
          rw [Int.toNat_natCast, HV.out]
          go_wp2
          go_round
          case rel => exact ⟨q + 1, by omega, by go_num⟩
          case measure => simp [intOf]; omega
    · obtain rfl : q = 128 := by omega
      go_wp2_with fail
      (with_reducible refine (awake3 _).mono ?_); rintro e w3 ⟨rfl, h12⟩
      have H12 := Sh.mk h12
      clear h12
      go_wp2
      go_ret
      exact ⟨rfl, below_then H11.out H11.out.size H12.out⟩
end Go.Proofs.Ytncmebefgklpjaa
