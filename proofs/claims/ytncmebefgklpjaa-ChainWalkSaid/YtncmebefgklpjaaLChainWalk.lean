/- The walk of the statement ChainWalk: a walk tells all that are there, the last one first; with a lesser number that there are more; a word that means nothing is met. -/
import Derived.Test.YtncmebefgklpjaaWalkLaw
namespace Go.Proofs.Ytncmebefgklpjaa
set_option linter.unusedVariables false
open Go.RowKit Go.Proofs.YtncmebefgklpjaaW.PrintWords Go.Proofs.YtncmebefgklpjaaW.PrintLast Go.Proofs.YtncmebefgklpjaaW.PrintMore
attribute [local go_sem] max2_mx min2_mn max_two min_two

set_option maxRecDepth 100000 in
set_option maxHeartbeats 8000000 in
theorem chainWalk_walk (A0 : Option Addr) (c0 : Nat) (l0 : List Int) (A1 : Option Addr) (c1 : Nat) (l1 : List Int) (a2 a3 : Int) (w : World) (hr0 : Kd.C (Kd.int .u64) w A0 l0.length l0) (hc0 : l0.length ≤ c0) (hw0 : ∀ x ∈ l0, (Lit.int .u64 x).wf = true) (y0 : l0.length * 8 ≤ 140737488351232)
    (hr1 : Kd.C (Kd.int .u8) w A1 l1.length l1) (hc1 : l1.length ≤ c1) (hw1 : ∀ x ∈ l1, (Lit.int .u8 x).wf = true) (y1 : l1.length * 1 ≤ 140737488351232) (w2 : (Lit.int .u8 a2).wf = true) (w3 : (Lit.int .u64 a3).wf = true) :
    Calls Try.prog 13 #[.slice A0 l0.length c0, .slice A1 l1.length c1, .int .u8 a2, .int .u64 a3] w fun e w' => e = .returned (.bool true) ∧ Below w.heap.size w w' := by
  have un : ∀ x ∈ l1, 0 ≤ x ∧ x ≤ 255 := fun x hx => by
    simpa [Lit.wf, IntKind.min, IntKind.max, IntKind.signed, IntKind.bits] using hw1 x hx
  have ub : 0 ≤ a2 ∧ a2 ≤ 255 := by simpa [Lit.wf, IntKind.min, IntKind.max, IntKind.signed, IntKind.bits] using w2
  obtain ⟨ub0, ub1⟩ := ub
  have hl : l0.length ≤ 17592186044416 := by omega
  have hl1 : l1.length ≤ 140737488351232 := by omega
  have HR := Sh.mk hr0
  have HR1 := Sh.mk hr1
  have HU := Sh.mk un
  clear hr0 hw0 y0 hr1 hw1 y1 un w2 w3
  go_enter Try.func13, Try.ntmps13
  go_wp2_with fail
  (with_reducible refine (laid_any 2 A0 c0 l0 _ (by omega) (by omega) HR.out hl).mono ?_); rintro e w1 ⟨ga, gb, gm, rfl, h1, h2, h3, h4, h5, h6, h7⟩
  obtain ⟨m, hm⟩ : ∃ m, m = laidM ((2 : Int).toNat * 64) l0 (min l0.length ((2 : Int).toNat * 64)) := ⟨_, rfl⟩
  rw [← hm] at h1 h2
  have hml : m.length = 128 := by rw [hm, laidM_len]; rfl
  rw [← hm]
  have HML := Sh.mk hml
  have HA := Sh.mk h1
  have HM := Sh.mk h2
  have HNE : Sh (gm ≠ ga ∧ gm ≠ gb) := ⟨fun e => h1.st.ne_ h2 (by decide) e.symm, h3⟩
  have HB := Sh.mk h7
  have HR1' : Sh (Kd.C (Kd.int .u8) w1 A1 l1.length l1) := ⟨Kd.C_below HR1.out h7⟩
  clear h1 h2 h3 h7 hm hml
  go_wp2_with fail
  (with_reducible refine (places_any A1 c1 l1 w1 HR1'.out hc1 HU.out hl1).mono ?_); rintro e w2 ⟨v, l, rfl, g1, g2, g3, g4⟩
  obtain ⟨A, c, rfl, hc, -⟩ := Kd.R_reads g1
  have HO2 : Sh (Kd.R (Kd.int .i64) 3 w2 w1.heap.size (fun k => w1.heap.size ≤ k) (.slice A l.length c) l) := ⟨Kd.R_mono (Kd.R_bound g1) (fun k hk => hk.2.1)⟩
  have HN := Sh.mk g2
  have HL : Sh (∀ x ∈ l, 0 ≤ x ∧ x < ((128 : Nat) : Int)) := ⟨g3⟩
  have hll : l.length ≤ 128 := nodup_bound 128 l g2 g3
  have HA2 : Sh (Ar w2 ga gb m) := ⟨HA.out.kp (Kp.of_below g4 []) (by simp) (by simp)⟩
  have HM2 : Sh (Blk w2 gm 28 (U64s m)) := ⟨HM.out.kp (Kp.of_below g4 []) (by simp)⟩
  have HB2 : Sh (Below w.heap.size w w2) := ⟨below_then HB.out HB.out.size g4⟩
  have hs1 : w.heap.size ≤ w1.heap.size := HB.out.size
  have HLT : Sh (gb < w1.heap.size ∧ gm < w1.heap.size) := ⟨HA.out.ws.lt, HM.out.lt⟩
  have HRD : Sh (∀ W, Kp [gb] w2 W → Kd.R (Kd.int .i64) 3 W w1.heap.size (fun k => w1.heap.size ≤ k) (.slice A l.length c) l) := ⟨fun W hW => Kd.R_kept HO2.out (S := fun k => k = gb) ⟨hW.size, fun i hi hn => hW.block i hi (by simpa using hn)⟩ (fun k hk e => by have := HLT.out.1; omega)⟩
  have HRC : Sh (∀ W, Kp [gb] w2 W → Kd.C (Kd.int .i64) W A l.length l) := ⟨fun W hW => (Kd.R_reads' (HRD.out W hW)).2.2⟩
  have HLM : Sh (∀ x ∈ l, 0 ≤ x ∧ x < (m.length : Int)) := ⟨fun x hx => by rw [HML.out]; exact HL.out x hx⟩
  clear g1 g2 g3 g4
  go_wp2_with fail
  (with_reducible refine (pushed_any ga gb m A c l w2 HA2.out HRC.out (by omega) HLM.out).mono ?_); rintro e w3 ⟨rfl, g1, g2⟩
  obtain ⟨M, hM⟩ : ∃ M, M = pushM m l l.length := ⟨_, rfl⟩
  rw [← hM] at g1
  have HA3 := Sh.mk g1
  have HO3 : Sh (Kd.R (Kd.int .i64) 3 w3 w1.heap.size (fun k => w1.heap.size ≤ k) (.slice A l.length c) l) := ⟨HRD.out w3 g2⟩
  have HM3 : Sh (Blk w3 gm 28 (U64s m)) := ⟨HM2.out.kp g2 (by simp; exact HNE.out.2)⟩
  have HB3 : Sh (Below w.heap.size w w3) := ⟨HB2.out.trans (g2.toBelow HB2.out.size (by simp; exact h5))⟩
  have HML2 : Sh (M.length = 128) := ⟨by rw [hM, pushM_len]; exact HML.out⟩
  have HW1 : Sh (∀ most, walkT M (headAt l l.length) most = if l.length ≤ most.toNat then (l.reverse, 0) else ([], 6)) := ⟨fun most => by rw [hM]; exact walkT_pushed m l HN.out HL.out HML.out most⟩
  have HW2 : Sh (∀ f most, 129 ≤ f → 0 < l.length → walkT (M.set (rd0 l 0).toNat f) (headAt l l.length) most = ([], 6)) := ⟨fun f most hf h0 => by rw [hM]; exact walkT_spoilt m l HN.out HL.out HML.out f hf h0 most⟩
  obtain ⟨hd, hhd⟩ : ∃ h, h = headAt l l.length := ⟨_, rfl⟩
  rw [← hhd]
  have HHD := Sh.mk hhd
  have hmx : 129 ≤ mx a3 129 := by unfold mx; split <;> omega
  have HMX := Sh.mk hmx
  clear g1 g2 hM HRD HRC HLM hhd hmx
  have HT : Sh (There M.length 0 128) := ⟨by rw [HML2.out]; exact ⟨by omega, by omega, by omega, by omega⟩⟩
  have hdt : (M.drop (0 : Int).toNat).take (128 : Int).toNat = M := by
    have : (128 : Int).toNat = M.length := by rw [HML2.out]; rfl
    rw [this]; simp
  have HDT := Sh.mk hdt
  clear hdt
  go_wp2_with fail
  (with_reducible refine (slice_in ga gb M 0 128 _ HA3.out HT.out).mono ?_); rintro e w4 ⟨v4, rfl, g1, g2⟩
  rw [HDT.out] at g1
  obtain ⟨A4, c4, rfl, hc4, hC4⟩ := Kd.R_reads g1
  have HC4 := Sh.mk hC4
  have HA4 : Sh (Ar w4 ga gb M) := ⟨HA3.out.kp (Kp.of_below g2 []) (by simp) (by simp)⟩
  have HO4 : Sh (Kd.C (Kd.int .i64) w4 A l.length l) := ⟨Kd.C_below (Kd.R_reads' HO3.out).2.2 g2⟩
  have HB4 : Sh (Below w.heap.size w w4) := ⟨below_then HB3.out HB3.out.size g2⟩
  have hs3 : w.heap.size ≤ w3.heap.size := HB3.out.size
  clear g1 g2 hC4
  go_wp2_with fail
  (with_reducible refine (walk_any ga gb M hd _ _ HA4.out (by omega)).mono ?_); rintro e w5 ⟨v5, rfl, g1, g2⟩
  have hw1 : walkT M hd (l.length : Int) = (l.reverse, 0) := by rw [HHD.out, HW1.out, if_pos (by omega)]
  rw [hw1] at g1
  rw [hw1]
  obtain ⟨A5, c5, rfl, hc5, hC5⟩ := Kd.R_reads g1
  rw [List.length_reverse] at hC5
  have hlr : l.reverse.length = l.length := List.length_reverse
  rw [hlr]
  have HC5 := Sh.mk hC5
  have HC45 : Sh (Kd.C (Kd.int .u64) w5 A4 M.length M) := ⟨Kd.C_below HC4.out g2⟩
  have HA5 : Sh (Ar w5 ga gb M) := ⟨HA4.out.kp (Kp.of_below g2 []) (by simp) (by simp)⟩
  have HO5 : Sh (Kd.C (Kd.int .i64) w5 A l.length l) := ⟨Kd.C_below HO4.out g2⟩
  have HB5 : Sh (Below w.heap.size w w5) := ⟨below_then HB4.out HB4.out.size g2⟩
  clear g1 g2 hC5 hw1 hlr
  go_wp2_with fail
  (with_reducible refine (words_yes ga gb M _ _ _ HA5.out HC45.out hc4).mono ?_); rintro e w6 ⟨rfl, g1⟩
  have HC6 : Sh (Kd.C (Kd.int .i64) w6 A5 l.length l.reverse) := ⟨Kd.C_below HC5.out g1⟩
  have HA6 : Sh (Ar w6 ga gb M) := ⟨HA5.out.kp (Kp.of_below g1 []) (by simp) (by simp)⟩
  have HO6 : Sh (Kd.C (Kd.int .i64) w6 A l.length l) := ⟨Kd.C_below HO5.out g1⟩
  have HB6 : Sh (Below w.heap.size w w6) := ⟨below_then HB5.out HB5.out.size g1⟩
  clear g1
  go_wp2
  go_loopw [18] (fun i wr => ∃ (k : Nat), k ≤ l.length ∧ i = .int .i64 k ∧ Sh (Below w6.heap.size w6 wr)) (fun i _ => l.length - (intOf i).toNat)
  case atStart => exact ⟨0, Nat.zero_le _, rfl, ⟨Below.refl _ _⟩⟩
  case round =>
    obtain ⟨k, hk, rfl, HBr⟩ := hrel
    by_cases hlt : k < l.length
    · obtain ⟨ad, rfl, hadl, hcell⟩ := C_cell (Kd.C_below HC6.out HBr.out) k hlt
      obtain ⟨ae, rfl, hael, hcell2⟩ := C_cell (Kd.C_below HO6.out HBr.out) (l.length - 1 - k) (by omega)
      rw [rd0_reverse l k hlt] at hcell
      obtain ⟨x, hx⟩ : ∃ x, x = rd0 l (l.length - 1 - k) := ⟨_, rfl⟩
      rw [← hx] at hcell hcell2
      obtain ⟨z, hz⟩ : ∃ z : Int, z = (l.length : Int) - 1 - (k : Int) := ⟨_, rfl⟩
      have hz1 : z.toNat = l.length - 1 - k := by omega
      rw [← hz1] at hcell2
      have hz0 : 0 ≤ z := by omega
      have hz2 : z < (l.length : Int) := by omega
      have hk2 : (k : Int) < (l.length : Int) := by omega
      have hs1' : IntKind.i64.wrap ((l.length : Int) - 1) = (l.length : Int) - 1 := by rw [IntKind.wrap_i64]; omega
      have hs2' : IntKind.i64.wrap ((l.length : Int) - 1 - (k : Int)) = z := by rw [IntKind.wrap_i64]; omega
      clear hx hz hz1 hadl hael
      go_wp2
      go_quiet (fail)
      go_wp2
      go_roundw
      case rel => exact ⟨k + 1, by omega, by go_num, ⟨below_then HBr.out HBr.out.size ((Kp.refl [] wr).drewN _).below⟩⟩
      case measure => simp [intOf]; omega
    · obtain rfl : k = l.length := by omega
      have HAr : Sh (Ar wr ga gb M) := ⟨HA6.out.kp (Kp.of_below HBr.out []) (by simp) (by simp)⟩
      have HOr : Sh (Kd.C (Kd.int .i64) wr A l.length l) := ⟨Kd.C_below HO6.out HBr.out⟩
      have HBW : Sh (Below w.heap.size w wr) := ⟨below_then HB6.out HB6.out.size HBr.out⟩
      clear hlt
      by_cases hl0 : l.length = 0
      · have b0 : ((l.length : Int) == 0) = true := by rw [hl0]; rfl
        go_wp2_with fail
        (with_reducible refine (awake9 _).mono ?_); rintro e w8 ⟨rfl, g1⟩
        have K8 := Sh.mk g1
        clear g1
        go_wp2
        go_ret
        exact ⟨rfl, below_then HBW.out HBW.out.size K8.out⟩
      · have b0 : ((l.length : Int) == 0) = false := by rw [beq_eq_false_iff_ne]; omega
        have b1 : (l.length : Int) ≠ 0 := by omega
        have b2 : 0 < (l.length : Int) := by omega
        obtain ⟨ad, rfl, hadl, hcell⟩ := C_cell HOr.out 0 (by omega)
        obtain ⟨x, hx⟩ : ∃ x, x = rd0 l 0 := ⟨_, rfl⟩
        have hx2 : 0 ≤ rd0 l 0 ∧ rd0 l 0 < 128 := by rw [rd0_get l 0 (by omega)]; exact HL.out _ (List.getElem_mem _)
        rw [← hx] at hcell hx2
        obtain ⟨hx0, hx1⟩ := hx2
        have HX := Sh.mk hx
        have hq0 : 0 ≤ a2 % (l.length : Int) := Int.emod_nonneg _ b1
        have hq1 : a2 % (l.length : Int) < (l.length : Int) := Int.emod_lt_of_pos _ b2
        clear hx hadl
        have hc0 : wr.cell? ad = some (.int .i64 x) := by
          have e : ad.add 0 = ad := by unfold Addr.add; rw [if_pos rfl]
          rwa [e] at hcell
        have HLL : Sh (0 < l.length) := ⟨by omega⟩
        have HCA : Sh (∀ W, Below wr.heap.size wr W → W.cell? ad = some (.int .i64 x) ∧ W.cell? (ad.add 0) = some (.int .i64 x)) := ⟨fun W hW => ⟨(hW.cell (World.block_lt_of_cell? _ _ hc0)).trans hc0, (hW.cell (World.block_lt_of_cell? _ _ hcell)).trans hcell⟩⟩
        go_wp2_with fail
        (with_reducible refine (walk_any ga gb M hd _ _ HAr.out (by omega)).mono ?_); rintro e w8 ⟨v8, rfl, g1, g2⟩
        have hw1 : walkT M hd (a2 % (l.length : Int)) = ([], 6) := by rw [HHD.out, HW1.out, if_neg (by omega)]
        rw [hw1] at g1
        rw [hw1]
        obtain ⟨A8, c8, rfl⟩ := Kd.R_slice g1
        have hcs := HCA.out w8 g2
        obtain ⟨hcs1, hcs2⟩ := hcs
        have HA8 : Sh (Ar w8 ga gb M) := ⟨HAr.out.kp (Kp.of_below g2 []) (by simp) (by simp)⟩
        have HB8 : Sh (Below w.heap.size w w8) := ⟨below_then HBW.out HBW.out.size g2⟩
        have hxM : x < (M.length : Int) := by rw [HML2.out]; omega
        clear g1 g2 hw1 hc0 hcell
        go_wp2_with fail
        (with_reducible refine (store_in ga gb M x _ _ HA8.out hx0 hxM).mono ?_); rintro e w9 ⟨rfl, g1, g2⟩
        have HA9 := Sh.mk g1
        have HB9 : Sh (Below w.heap.size w w9) := ⟨HB8.out.trans (g2.toBelow HB8.out.size (by simp; exact h5))⟩
        clear g1 g2
        go_wp2_with fail
        (with_reducible refine (walk_any ga gb _ hd _ _ HA9.out (by omega)).mono ?_); rintro e w10 ⟨v10, rfl, g1, g2⟩
        have hw2 : walkT (M.set x.toNat (mx a3 129)) hd ((l.length : Int) + 1) = ([], 6) := by rw [HX.out, HHD.out]; exact HW2.out _ _ HMX.out HLL.out
        rw [hw2] at g1
        rw [hw2]
        obtain ⟨A10, c10, rfl⟩ := Kd.R_slice g1
        have HB10 : Sh (Below w.heap.size w w10) := ⟨below_then HB9.out HB9.out.size g2⟩
        clear g1 g2 hw2
        go_wp2_with fail
        (with_reducible refine (awake9 _).mono ?_); rintro e w11 ⟨rfl, g1⟩
        have K11 := Sh.mk g1
        clear g1
        go_wp2
        go_ret
        exact ⟨rfl, below_then HB10.out HB10.out.size K11.out⟩
end Go.Proofs.Ytncmebefgklpjaa
