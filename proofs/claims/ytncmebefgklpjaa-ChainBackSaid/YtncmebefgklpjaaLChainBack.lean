/- The walk of the statement ChainBack: what is pushed last is popped first; all words elsewhere are as they were. -/
import Derived.Test.YtncmebefgklpjaaBackLaw
namespace Go.Proofs.Ytncmebefgklpjaa
set_option linter.unusedVariables false
open Go.RowKit Go.Proofs.YtncmebefgklpjaaW.PrintWords Go.Proofs.YtncmebefgklpjaaW.PrintLast Go.Proofs.YtncmebefgklpjaaW.PrintMore

set_option maxRecDepth 100000 in
set_option maxHeartbeats 8000000 in
theorem chainBack_walk (A0 : Option Addr) (c0 : Nat) (l0 : List Int) (A1 : Option Addr) (c1 : Nat) (l1 : List Int) (w : World) (hr0 : Kd.C (Kd.int .u64) w A0 l0.length l0) (hc0 : l0.length ≤ c0) (hw0 : ∀ x ∈ l0, (Lit.int .u64 x).wf = true) (y0 : l0.length * 8 ≤ 140737488351232)
    (hr1 : Kd.C (Kd.int .u8) w A1 l1.length l1) (hc1 : l1.length ≤ c1) (hw1 : ∀ x ∈ l1, (Lit.int .u8 x).wf = true) (y1 : l1.length * 1 ≤ 140737488351232) :
    Calls Try.prog 10 #[.slice A0 l0.length c0, .slice A1 l1.length c1] w fun e w' => e = .returned (.bool true) ∧ Below w.heap.size w w' := by
  have un : ∀ x ∈ l1, 0 ≤ x ∧ x ≤ 255 := fun x hx => by
    simpa [Lit.wf, IntKind.min, IntKind.max, IntKind.signed, IntKind.bits] using hw1 x hx
  have hl : l0.length ≤ 17592186044416 := by omega
  have hl1 : l1.length ≤ 140737488351232 := by omega
  have HR := Sh.mk hr0
  have HR1 := Sh.mk hr1
  have HU := Sh.mk un
  clear hr0 hw0 y0 hr1 hw1 y1 un
  go_enter Try.func10, Try.ntmps10
  go_wp2_with fail
  (with_reducible refine (laid_any 2 A0 c0 l0 _ (by omega) (by omega) HR.out hl).mono ?_); rintro e w1 ⟨ga, gb, gm, rfl, h1, h2, h3, h4, h5, h6, h7⟩
  obtain ⟨m, hm⟩ : ∃ m, m = laidM ((2 : Int).toNat * 64) l0 (min l0.length ((2 : Int).toNat * 64)) := ⟨_, rfl⟩
  rw [← hm] at h1 h2
  have hml : m.length = 128 := by rw [hm, laidM_len]; rfl
  rw [← hm]
  have HML := Sh.mk hml
  have HA := Sh.mk h1
  have HM := Sh.mk h2
  have HNE : Sh (gm ≠ ga ∧ gm ≠ gb) := ⟨fun e => h1.st.ne_ h2 (by decide) e.symm, h3⟩
  have HB := Sh.mk h7
  have HR1' : Sh (Kd.C (Kd.int .u8) w1 A1 l1.length l1) := ⟨Kd.C_below HR1.out h7⟩
  clear h1 h2 h3 h7 hm hml
  go_wp2_with fail
  (with_reducible refine (places_any A1 c1 l1 w1 HR1'.out hc1 HU.out hl1).mono ?_); rintro e w2 ⟨v, l, rfl, g1, g2, g3, g4⟩
  obtain ⟨A, c, rfl, hc, -⟩ := Kd.R_reads g1
  have HO2 : Sh (Kd.R (Kd.int .i64) 3 w2 w1.heap.size (fun k => w1.heap.size ≤ k) (.slice A l.length c) l) := ⟨Kd.R_mono (Kd.R_bound g1) (fun k hk => hk.2.1)⟩
  have HN := Sh.mk g2
  have HL : Sh (∀ x ∈ l, 0 ≤ x ∧ x < ((128 : Nat) : Int)) := ⟨g3⟩
  have hll : l.length ≤ 128 := nodup_bound 128 l g2 g3
  have HA2 : Sh (Ar w2 ga gb m) := ⟨HA.out.kp (Kp.of_below g4 []) (by simp) (by simp)⟩
  have HM2 : Sh (Blk w2 gm 28 (U64s m)) := ⟨HM.out.kp (Kp.of_below g4 []) (by simp)⟩
  have HB2 : Sh (Below w.heap.size w w2) := ⟨below_then HB.out HB.out.size g4⟩
  have hs1 : w.heap.size ≤ w1.heap.size := HB.out.size
  have HLT : Sh (gb < w1.heap.size ∧ gm < w1.heap.size) := ⟨HA.out.ws.lt, HM.out.lt⟩
  have HRD : Sh (∀ W, Kp [gb] w2 W → Kd.R (Kd.int .i64) 3 W w1.heap.size (fun k => w1.heap.size ≤ k) (.slice A l.length c) l) := ⟨fun W hW => Kd.R_kept HO2.out (S := fun k => k = gb) ⟨hW.size, fun i hi hn => hW.block i hi (by simpa using hn)⟩ (fun k hk e => by have := HLT.out.1; omega)⟩
  have HRC : Sh (∀ W, Kp [gb] w2 W → Kd.C (Kd.int .i64) W A l.length l) := ⟨fun W hW => (Kd.R_reads' (HRD.out W hW)).2.2⟩
  have HLM : Sh (∀ x ∈ l, 0 ≤ x ∧ x < (m.length : Int)) := ⟨fun x hx => by rw [HML.out]; exact HL.out x hx⟩
  clear g1 g2 g3 g4
  go_wp2_with fail
  (with_reducible refine (pushed_any ga gb m A c l w2 HA2.out HRC.out (by omega) HLM.out).mono ?_); rintro e w3 ⟨rfl, g1, g2⟩
  obtain ⟨M, hM⟩ : ∃ M, M = pushM m l l.length := ⟨_, rfl⟩
  rw [← hM] at g1
  have HA3 := Sh.mk g1
  have HO3 : Sh (Kd.R (Kd.int .i64) 3 w3 w1.heap.size (fun k => w1.heap.size ≤ k) (.slice A l.length c) l) := ⟨HRD.out w3 g2⟩
  have HM3 : Sh (Blk w3 gm 28 (U64s m)) := ⟨HM2.out.kp g2 (by simp; exact HNE.out.2)⟩
  have HB3 : Sh (Below w.heap.size w w3) := ⟨HB2.out.trans (g2.toBelow HB2.out.size (by simp; exact h5))⟩
  have HP : Sh (∀ q, q < l.length → popS M (headAt l (q + 1)) = (rd0 l q, headAt l q, 0)) := ⟨fun q hq => by rw [hM]; exact pop_pushed m l HN.out HL.out HML.out q hq⟩
  have HBE : Sh (backM m l l.length l.length = M) := ⟨by rw [hM]; exact back_eq m l HN.out HL.out HML.out⟩
  have HBL : Sh (∀ t, (backM m l l.length t).length = 128) := ⟨fun t => by unfold backM; rw [setsM_len]; exact HML.out⟩
  have HB0 : Sh (backM m l l.length (l.length - l.length) = m) := ⟨by simp [backM, setsM]⟩
  have HH0 : Sh (0 ≤ headAt l l.length ∧ headAt l l.length ≤ 128) := ⟨headAt_in l 128 HL.out _ (Nat.le_refl _)⟩
  clear g1 g2 hM HRD HRC HLM
  go_wp2
  go_loopw [8, 10] (fun hd i wr => ∃ (q : Nat) (z h : Int), q ≤ l.length ∧ i = .int .i64 z ∧ z + 1 = q ∧ hd = .int .i64 h ∧ Sh (h = headAt l q) ∧ Sh (Ar wr ga gb M) ∧ Sh (Blk wr gm 28 (U64s (backM m l l.length (l.length - q)))) ∧ Sh (Kd.R (Kd.int .i64) 3 wr w1.heap.size (fun k => w1.heap.size ≤ k) (.slice A l.length c) l) ∧ Sh (Below w.heap.size w wr)) (fun hd i _ => (intOf i + 1).toNat)
  case atStart => exact ⟨l.length, (l.length : Int) - 1, headAt l l.length, Nat.le_refl _, rfl, by omega, rfl, ⟨rfl⟩, HA3, ⟨by rw [HB0.out]; exact HM3.out⟩, HO3, HB3⟩
  case round =>
    obtain ⟨q, z, h, hq, rfl, hz, rfl, HH, HAr, HMr, HOr, HBr⟩ := hrel
    cases q with
    | succ q =>
      obtain rfl : z = (q : Int) := by omega
      have hx : 0 ≤ rd0 l q ∧ rd0 l q < 128 := by rw [rd0_get l q (by omega)]; exact HL.out _ (List.getElem_mem _)
      have hh := headAt_in l 128 HL.out q (by omega)
      have e1 : headAt l (q + 1) = rd0 l q + 1 := by simp [headAt]
      have hp := HP.out q (by omega)
      obtain ⟨ad, rfl, hadl, hcell⟩ := C_cell (Kd.R_reads' HOr.out).2.2 q (by omega)
      have HSB : Sh (backM m l l.length (l.length - q) = (backM m l l.length (l.length - (q + 1))).set (rd0 l q).toNat (headAt l q)) := ⟨back_step m l q (by omega)⟩
      obtain ⟨x, hxx⟩ : ∃ x, x = rd0 l q := ⟨_, rfl⟩
      obtain ⟨y, hyy⟩ : ∃ y, y = headAt l q := ⟨_, rfl⟩
      rw [← hxx, ← hyy] at hp
      rw [← hxx] at hx hcell e1
      rw [← hyy] at hh
      have HS2 : Sh (backM m l l.length (l.length - q) = (backM m l l.length (l.length - (q + 1))).set x.toNat y) := ⟨by rw [HSB.out, ← hxx, ← hyy]⟩
      rw [← HH.out] at hp
      have HPP : Sh (popS M h = (x, y, 0)) := ⟨hp⟩
      have HY := Sh.mk hyy
      obtain ⟨hx0, hx1⟩ := hx
      obtain ⟨hy0, hy1⟩ := hh
      have hrange : -9223372036854775808 ≤ h ∧ h ≤ 9223372036854775807 := by rw [HH.out, e1]; omega
      obtain ⟨hr1, hr2⟩ := hrange
      have hold : wr.cell? ⟨gm, x.toNat, none⟩ = some (.int .u64 (rd0 (backM m l l.length (l.length - (q + 1))) x.toNat)) := by rw [HMr.out.cell]; exact U64s_at _ _ (by rw [HBL.out]; omega)
      have hfz := HMr.out.frozen x.toNat
      have hml2 : (m.length : Int) = 128 := by have := HML.out; omega
      clear hp hxx hyy HSB e1 hadl
      go_wp2_with fail
      (with_reducible refine (pop_any ga gb M h _ HAr.out hr1 hr2).mono ?_); rintro e w' ⟨rfl, rfl⟩
      rw [HPP.out]
      go_wp2
      go_roundw
      case rel =>
        refine ⟨q, (q : Int) - 1, y, by omega, by go_num, by omega, rfl, HY, ⟨?_⟩, ⟨?_⟩, ⟨?_⟩, ⟨?_⟩⟩
        · exact HAr.out.kp ((Kp.refl [gm] _).set_ (by simp) _) (by simp; exact fun e => HNE.out.1 e.symm) (by simp; exact fun e => HNE.out.2 e.symm)
        · rw [HS2.out, ← U64s_set]
          exact HMr.out.set_ _ _
        · exact Kd.R_kept HOr.out (S := fun k => k = gm) (Kept.setCell (S := fun k => k = gm) (Kept.refl _ _) (.inl rfl) _) (fun k hk e => by have := HLT.out.2; omega)
        · exact HBr.out.setCell h6 _
      case measure => simp [intOf] <;> omega
    | zero =>
      obtain rfl : z = -1 := by omega
      have hh0 : h = 0 := by rw [HH.out]; simp [headAt]
      subst hh0
      have HPP : Sh (popS M 0 = (0, 0, 2)) := ⟨by simp [popS]⟩
      have HML2 : Sh (M.length = m.length) := ⟨by rw [← HBE.out, HBL.out, HML.out]⟩
      have HC : Sh (Kd.C (Kd.int .u64) wr (some ⟨gm, 0, none⟩) M.length M) := ⟨C_whole (by have := HMr.out; rw [Nat.sub_zero, HBE.out] at this; exact this) (by rw [HML2.out, HML.out]; omega)⟩
      have HW : Sh (Calls Try.prog 20 #[.pointer (some ⟨ga, 0, none⟩), .slice (some ⟨gm, 0, none⟩) m.length m.length] wr fun e w' => e = .returned (.bool true) ∧ Below wr.heap.size wr w') := ⟨by
        have := words_yes ga gb M _ M.length _ HAr.out HC.out (Nat.le_refl _)
        rw [HML2.out] at this
        exact this⟩
      clear hz
      go_wp2_with fail
      (with_reducible refine (pop_any ga gb M 0 _ HAr.out (by omega) (by omega)).mono ?_); rintro e w' ⟨rfl, rfl⟩
      rw [HPP.out]
      go_wp2_with fail
      (with_reducible refine HW.out.mono ?_); rintro e w5 ⟨rfl, g1⟩
      have K5 := Sh.mk g1
      clear g1
      go_wp2_with fail
      (with_reducible refine (awake9 _).mono ?_); rintro e w6 ⟨rfl, g1⟩
      have K6 := Sh.mk g1
      clear g1
      go_wp2
      go_ret
      exact ⟨rfl, below_then (below_then HBr.out HBr.out.size K5.out) (Nat.le_trans HBr.out.size K5.out.size) K6.out⟩
end Go.Proofs.Ytncmebefgklpjaa
