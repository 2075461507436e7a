/- The walk of the statement ChainRuns: whatever is pushed and popped, each answer, and all words, are the document's. -/
import Derived.Test.YtncmebefgklpjaaLaw9
namespace Go.Proofs.Ytncmebefgklpjaa
set_option linter.unusedVariables false
open Go.RowKit Go.Proofs.YtncmebefgklpjaaW.PrintWords Go.Proofs.YtncmebefgklpjaaW.PrintLast Go.Proofs.YtncmebefgklpjaaW.PrintMore

theorem pushS_hi (m : List Int) (h a : Int) (hm : m.length ≤ 16384) : -9223372036854775808 ≤ (pushS m h a).2.1 ∧ (pushS m h a).2.1 ≤ 9223372036854775807 := by
  unfold pushS
  split
  · simp
  · split
    · simp
    · simp; omega
theorem rd0_mem {l : List Int} {p : Int → Prop} (h : ∀ x ∈ l, p x) (k : Nat) (hk : k < l.length) : p (rd0 l k) := by
  rw [rd0_get l k hk]; exact h _ (List.getElem_mem hk)

set_option maxRecDepth 100000 in
set_option maxHeartbeats 8000000 in
theorem chainRuns_walk (A0 : Option Addr) (c0 : Nat) (l0 : List Int) (A1 : Option Addr) (c1 : Nat) (l1 : List Int) (w : World) (hr0 : Kd.C (Kd.int .u64) w A0 l0.length l0) (hc0 : l0.length ≤ c0) (hw0 : ∀ x ∈ l0, (Lit.int .u64 x).wf = true) (y0 : l0.length * 8 ≤ 140737488351232)
    (hr1 : Kd.C (Kd.int .u8) w A1 l1.length l1) (hc1 : l1.length ≤ c1) (hw1 : ∀ x ∈ l1, (Lit.int .u8 x).wf = true) (y1 : l1.length * 1 ≤ 140737488351232) :
    Calls Try.prog 9 #[.slice A0 l0.length c0, .slice A1 l1.length c1] w fun e w' => e = .returned (.bool true) ∧ Below w.heap.size w w' := by
  have un : ∀ x ∈ l1, 0 ≤ x ∧ x ≤ 255 := fun x hx => by
    simpa [Lit.wf, IntKind.min, IntKind.max, IntKind.signed, IntKind.bits] using hw1 x hx
  have hl : l0.length ≤ 17592186044416 := by omega
  have hl1 : l1.length ≤ 140737488351232 := by omega
  have HR := Sh.mk hr0
  have HR1 := Sh.mk hr1
  have HU := Sh.mk un
  clear hr0 hw0 y0 hr1 hw1 y1 un
  go_enter Try.func9, Try.ntmps9
  go_wp2_with fail
  (with_reducible refine (laid_any 2 A0 c0 l0 _ (by omega) (by omega) HR.out hl).mono ?_); rintro e w1 ⟨ga, gb, gm, rfl, h1, h2, h3, h4, h5, h6, h7⟩
  obtain ⟨m, hm⟩ : ∃ m, m = laidM ((2 : Int).toNat * 64) l0 (min l0.length ((2 : Int).toNat * 64)) := ⟨_, rfl⟩
  rw [← hm] at h1 h2
  have hml : m.length = 128 := by rw [hm, laidM_len]; rfl
  rw [← hm]
  have HML := Sh.mk hml
  have HA := Sh.mk h1
  have HNE : Sh (gm ≠ ga ∧ gm ≠ gb) := ⟨fun e => h1.st.ne_ h2 (by decide) e.symm, h3⟩
  have HO : Sh (Kd.R (Kd.int .u64) 28 w1 w.heap.size (fun k => k ≠ ga ∧ k ≠ gb) (.slice (some ⟨gm, 0, none⟩) m.length m.length) m) := ⟨R_blk h2 h6 (by omega) _ HNE.out⟩
  have HB := Sh.mk h7
  clear h1 h2 h3 h7 hm hml
  go_wp2
  go_loopw [6, 7, 8] (fun mv hd i wr => ∃ (k : Nat) (h : Int) (m : List Int), k ≤ l1.length ∧ i = .int .i64 k ∧ hd = .int .i64 h ∧ -9223372036854775808 ≤ h ∧ h ≤ 9223372036854775807 ∧ Sh (m.length = 128) ∧ Sh (Ar wr ga gb m) ∧ Sh (Kd.R (Kd.int .u64) 28 wr w.heap.size (fun k => k ≠ ga ∧ k ≠ gb) mv m) ∧ Sh (Below w.heap.size w wr)) (fun mv hd i _ => l1.length - (intOf i).toNat)
  case atStart => exact ⟨0, 0, m, Nat.zero_le _, rfl, rfl, by omega, by omega, HML, HA, HO, HB⟩
  case round =>
    clear HML HA HO HB HNE
    obtain ⟨k, h, m, hk, rfl, rfl, hh0, hh1, HML, HA, HO, HB⟩ := hrel
    have HS : Sh (Below w.heap.size w wr) := HB
    obtain ⟨mA, mc, rfl, hmc, hmC⟩ := Kd.R_reads HO.out
    have HC := Sh.mk hmC
    clear hmC
    by_cases hlt : k < l1.length ∧ k < 300
    · obtain ⟨hk1, hk2⟩ := hlt
      obtain ⟨ad, rfl, hadl, hcell⟩ := C_cell HR1.out k hk1
      have hadb : (ad.add k).block = ad.block := by unfold Addr.add; split <;> rfl
      obtain ⟨x, hx⟩ : ∃ x, x = rd0 l1 k := ⟨_, rfl⟩
      have hx2 := rd0_mem HU.out k hk1
      rw [← hx] at hx2 hcell
      obtain ⟨hx0, hx1⟩ := hx2
      have hcell' : wr.cell? (ad.add k) = some (.int .u8 x) := (HB.out.cell (by rw [hadb]; exact hadl)).trans hcell
      have HCL : Sh (∀ W, Below w.heap.size w W → W.cell? (ad.add k) = some (.int .u8 x)) := ⟨fun W hW => (hW.cell (by rw [hadb]; exact hadl)).trans hcell⟩
      clear hadb hadl hcell hx
      by_cases c3 : x % 3 = 0
      · have b3 : (x % 3 == 0) = true := beq_iff_eq.mpr c3
        obtain ⟨⟨p1, p2, p3⟩, hp⟩ : ∃ p, p = popS m h := ⟨_, rfl⟩
        have hpp := popS_hi m h
        rw [← hp] at hpp
        obtain ⟨hp0, hp1⟩ := hpp
        have HP : Sh (Calls Try.prog 28 #[.pointer (some ⟨ga, 0, none⟩), .int .i64 h] wr fun e w' => e = .returned (.tuple #[.int .i64 p1, .int .i64 p2, .int .i64 p3]) ∧ wr = w') := by
          have := pop_any ga gb m h wr HA.out hh0 hh1
          rw [← hp] at this
          exact ⟨this⟩
        have HP9 : Sh (Pr.rickyardref9_Pop.f 1 m h = some (p1, p2, p3)) := ⟨by rw [r9Pop_eq 0 m h (by have := HML.out; omega) hh0 hh1, hp]⟩
        clear hp c3
        go_wp2_with fail
        (with_reducible refine HP.out.mono ?_); rintro e w' ⟨rfl, rfl⟩
        go_wp2_with fail
        (with_reducible refine (Pr.rickyardref9_Pop.calls 1 _ _ m h p1 p2 p3 _ HC.out hmc HP9.out).mono ?_); rintro e w2 ⟨rfl, ⟨nd, rfl⟩⟩
        have HA2 : Sh (Ar (wr.drewN nd) ga gb m) := ⟨HA.out.kp ((Kp.refl [] _).drewN _) (by simp) (by simp)⟩
        have HB2 : Sh (Below w.heap.size w (wr.drewN nd)) := ⟨below_then HB.out HB.out.size ((Kp.refl [] wr).drewN _).below⟩
        have HO2 : Sh (Kd.R (Kd.int .u64) 28 (wr.drewN nd) w.heap.size (fun k => k ≠ ga ∧ k ≠ gb) (.slice mA m.length mc) m) := ⟨Kd.R_drewN HO.out _⟩
        generalize wr.drewN nd = w2 at *
        go_wp2
        go_roundw
        case rel => exact ⟨k + 1, p2, m, by omega, by go_num, rfl, hp0, hp1, HML, HA2, HO2, HB2⟩
        case measure => simp [intOf]; omega
      · have b3 : (x % 3 == 0) = false := beq_eq_false_iff_ne.mpr c3
        obtain ⟨⟨n1, n2, n3⟩, hz⟩ : ∃ q, q = pushS m h (x - 10) := ⟨_, rfl⟩
        have hpp := pushS_hi m h (x - 10) (by have := HML.out; omega)
        rw [← hz] at hpp
        obtain ⟨hp0, hp1⟩ := hpp
        have HZ9 : Sh (Pr.rickyardref9_Push.f m h (x - 10) = some (n1, n2, n3)) := ⟨by rw [r9Push_eq m h _ (by have := HML.out; omega), hz]⟩
        have HZ : Sh (Calls Try.prog 30 #[.pointer (some ⟨ga, 0, none⟩), .int .i64 h, .int .i64 (x - 10)] wr fun e w' => e = .returned (.tuple #[.int .i64 n2, .int .i64 n3]) ∧ Ar w' ga gb n1 ∧ Kp [gb] wr w') := by
          have := push_any ga gb m h (x - 10) wr HA.out
          rw [← hz] at this
          exact ⟨this⟩
        have HNL : Sh (n1.length = 128) := ⟨by have := pushS_len m h (x - 10); rw [← hz] at this; simp at this; rw [this]; exact HML.out⟩
        clear hz c3
        go_wp2_with fail
        (with_reducible refine HZ.out.mono ?_); rintro e w2 ⟨rfl, g1, g2⟩
        have HA2 := Sh.mk g1
        have HB2 : Sh (Below w.heap.size w w2) := ⟨HB.out.trans (g2.toBelow HB.out.size (by simp; exact h5))⟩
        have HO2 : Sh (Kd.R (Kd.int .u64) 28 w2 w.heap.size (fun k => k ≠ ga ∧ k ≠ gb) (.slice mA m.length mc) m) := ⟨Kd.R_kept HO.out (S := fun k => k = gb) ⟨g2.size, fun i hi hn => g2.block i hi (by simpa using hn)⟩ (fun k hk => hk.2)⟩
        have hcell2 := HCL.out w2 HB2.out
        clear g1 g2
        go_wp2_with fail
        (with_reducible refine (Pr.rickyardref9_Push.calls (fun k => k ≠ ga ∧ k ≠ gb) _ m h (x - 10) n1 n2 n3 w _ HB2.out HO2.out HZ9.out).mono ?_); rintro e w3 ⟨v3, rfl, g1, g2, g3⟩
        have HA3 : Sh (Ar w3 ga gb n1) := ⟨⟨blk_kept HA2.out.st g3 (by simp), blk_kept HA2.out.ws g3 (by simp), HA2.out.small⟩⟩
        have HO3 : Sh (Kd.R (Kd.int .u64) 28 w3 w.heap.size (fun k => k ≠ ga ∧ k ≠ gb) v3 n1) := ⟨Kd.R_mono g1 (fun k hk => hk.elim id (fun hk => by
          have e1 := HA2.out.st.lt
          have e2 := HA2.out.ws.lt
          exact ⟨by omega, by omega⟩))⟩
        have HB3 := Sh.mk g2
        clear g1 g2 g3
        by_cases c4 : n3 = 0
        · have b4 : (n3 == 0) = true := beq_iff_eq.mpr c4
          clear c4
          go_wp2
          go_roundw
          case rel => exact ⟨k + 1, n2, n1, by omega, by go_num, rfl, hp0, hp1, HNL, HA3, HO3, HB3⟩
          case measure => simp [intOf]; omega
        · have b4 : (n3 == 0) = false := beq_eq_false_iff_ne.mpr c4
          clear c4
          go_wp2
          go_roundw
          case rel => exact ⟨k + 1, h, n1, by omega, by go_num, rfl, hh0, hh1, HNL, HA3, HO3, HB3⟩
          case measure => simp [intOf]; omega
    · have HW : Sh (Calls Try.prog 20 #[.pointer (some ⟨ga, 0, none⟩), .slice mA m.length mc] wr fun e w' => e = .returned (.bool true) ∧ Below wr.heap.size wr w') := ⟨words_yes ga gb m mA mc _ HA.out HC.out hmc⟩
      by_cases hk1 : k < l1.length
      · have hk2 : 300 ≤ k := by omega
        clear hlt
        go_wp2_with fail
        (with_reducible refine HW.out.mono ?_); rintro e w2 ⟨rfl, g1⟩
        have K2 := Sh.mk g1
        clear g1
        go_wp2_with fail
        (with_reducible refine (awake9 _).mono ?_); rintro e w3 ⟨rfl, g1⟩
        have K3 := Sh.mk g1
        clear g1
        go_wp2
        go_ret
        exact ⟨rfl, below_then (below_then HB.out HB.out.size K2.out) (Nat.le_trans HB.out.size K2.out.size) K3.out⟩
      · have hk2 : k = l1.length := by omega
        subst hk2
        clear hlt hk1
        go_wp2_with fail
        (with_reducible refine HW.out.mono ?_); rintro e w2 ⟨rfl, g1⟩
        have K2 := Sh.mk g1
        clear g1
        go_wp2_with fail
        (with_reducible refine (awake9 _).mono ?_); rintro e w3 ⟨rfl, g1⟩
        have K3 := Sh.mk g1
        clear g1
        go_wp2
        go_ret
        exact ⟨rfl, below_then (below_then HB.out HB.out.size K2.out) (Nat.le_trans HB.out.size K2.out.size) K3.out⟩
end Go.Proofs.Ytncmebefgklpjaa
