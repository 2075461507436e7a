/- Several texts in one: LinRFits, LinRMay, LinROrder. -/
import Derived.Test.YtpddppipjlagfaaLinLaw
import Derived.Test.YtpddppipjlagfaaAccLaw
import Derived.Deep.LoopGhost
/- The document's Fits: its contract. No statement is proved here. -/
namespace Go.Proofs.Ytpddppipjlagfaa
set_option linter.unusedVariables false
set_option linter.unusedSimpArgs false
open Go.RowKit Go.Proofs.YtpddppipjlagfaaW.PrintWords Go.Proofs.YtpddppipjlagfaaW.PrintLast Go.Proofs.YtpddppipjlagfaaW.PrintMore Pr Go.Proofs.Ytpddppipjlagfaa.Pure

theorem raccepts_anyR {m : Int} {w : World} (hm : mOk m) {D : List De} (hlen : D.length ≤ 1000) {B : Option Addr} {cd : Nat} (hD : Kd.C k38 w B D.length D) (hcd : D.length ≤ cd) :
    Calls Try.prog 37 #[.agg #[.int .i64 m, .slice none 0 0], .slice B D.length cd] w fun e w' => ∃ (A6 : Option Addr) (n6 c6 : Nat), e = .returned (.tuple #[.agg #[.int .i64 m, .slice A6 n6 c6], .int .i64 ((accsL m [] D).2.1 : Nat), .bool (accsL m [] D).2.2]) ∧ Below w.heap.size w w' :=
  (raccepts_any m B cd D w hm hlen hD hcd).mono (fun e w' ⟨A', c', h4, _, _, h7⟩ => ⟨A', _, c', h4, h7⟩)
theorem rahead_any (Y X : Oq) (W : World) : Calls Try.prog 36 #[.agg #[.int .i64 Y.f0.f0, .int .i64 Y.f0.f1, .int .i64 Y.f0.f2, .int .i64 Y.f0.f3, .int .i64 Y.f1, .int .i64 Y.f2], .agg #[.int .i64 X.f0.f0, .int .i64 X.f0.f1, .int .i64 X.f0.f2, .int .i64 X.f0.f3, .int .i64 X.f1, .int .i64 X.f2]] W fun e w' => e = .returned (.bool (ahB Y X)) ∧ Below W.heap.size W w' :=
  rickyardref26_ahead.calls _ _ _ _ _ _ _ _ _ _ _ _ _ W (rahead_is Y X)
theorem in_any (o : List Int) (n : Int) (A : Option Addr) (c : Nat) (W : World) (h : Kd.C (Kd.int .i64) W A o.length o) (hc : o.length ≤ c) (hl : o.length ≤ 1000) :
    Calls Try.prog 35 #[.slice A o.length c, .int .i64 n] W fun e w' => e = .returned (.bool (decide (n ∈ o))) ∧ Below W.heap.size W w' := by
  obtain ⟨k, hk⟩ := (in_ev o n (by omega)).rounds
  exact (rickyardref26_In.calls k A c o n _ W h hc hk).mono (fun e w' ⟨h1, h2⟩ => ⟨h1, h2.below⟩)
theorem take_dropI (o : List Int) (k : Nat) (h : k < o.length) : o = o.take k ++ rd o (k : Int) :: o.drop (k + 1) := by
  rw [← rd_dropI o k h, List.take_append_drop]
theorem fits_at {m : Int} {l : List Oq} {o : List Int} (k : Nat) (h : k < o.length) (hf : fitsB m l o = true) : inB l (rd o (k : Int)) = true ∧ ¬ rd o (k : Int) ∈ o.take k ∧ (∀ p ∈ o.take k, ahB (opL l (rd o (k : Int))) (opL l p) = false) := by
  rw [fits_iff] at hf
  obtain ⟨-, h2, -, h4, -⟩ := hf
  rw [take_dropI o k h] at h2 h4
  rw [show o.take k ++ rd o (k : Int) :: o.drop (k + 1) = (o.take k ++ [rd o (k : Int)]) ++ o.drop (k + 1) by simp] at h2 h4
  have h2 := placesB_pre h2
  have h4 := ahF_pre _ _ h4
  rw [placesB_snoc] at h2
  rw [ahF_snoc] at h4
  simp only [Bool.and_eq_true, Bool.not_eq_true', decide_eq_false_iff_not] at h2 h4
  exact ⟨h2.2.1, h2.2.2, fun p hp => by simpa using List.all_eq_true.1 h4.2 p hp⟩
set_option maxRecDepth 100000 in
set_option maxHeartbeats 16000000 in
theorem rfits_any (m : Int) (A : Option Addr) (c : Nat) (l : List Oq) (B : Option Addr) (cB : Nat) (o : List Int) (w : World) (hm : mOk m) (hr : Kd.C k40 w A l.length l) (hc : l.length ≤ c) (ho : Kd.C (Kd.int .i64) w B o.length o) (hcB : o.length ≤ cB) (hl : l.length ≤ 500) (hol : o.length ≤ 1000) :
    Calls Try.prog 23 #[.int .i64 m, .slice A l.length c, .slice B o.length cB] w fun e w' => e = .returned (.bool (fitsB m l o)) ∧ Below w.heap.size w w' := by
  have hu := Try.underlying40
  have hu2 := Try.underlying43
  have hu3 := Try.underlying38
  have HR := Sh.mk hr
  have HO := Sh.mk ho
  have HMM := Sh.mk hm
  obtain ⟨km, hkm⟩ := (rmay_ev l (by omega)).rounds
  have HM := Sh.mk (rickyardref26_MayOps.calls km A c l (mayB l) w hr hc hkm)
  clear hr ho hm hkm
  go_enter Try.func23, Try.ntmps23
  go_wp2_with fail
  (with_reducible refine HM.out.mono ?_); rintro e w1 ⟨rfl, b⟩
  have B3 := Sh.mk b
  clear b HM
  cases c1 : mayB l with
  | false =>
    have HV : Sh (fitsB m l o = false) := ⟨by unfold fitsB; rw [c1]; rfl⟩
    clear c1
    go_wp2
    go_ret
    exact ⟨by rw [HV.out]; rfl, B3.out⟩
  | true =>
  have C1 := Sh.mk c1
  clear c1
  by_cases c2 : o.length ≤ l.length
  case neg =>
    have HV : Sh (fitsB m l o = false) := ⟨by
      rw [Bool.eq_false_iff]
      intro h
      rw [fits_iff] at h
      exact c2 (places_len h.2.1)⟩
    have d1 : decide ((l.length : Int) < (o.length : Int)) = true := decide_eq_true (by omega)
    go_wp2
    go_ret
    exact ⟨by rw [HV.out]; rfl, B3.out⟩
  case pos =>
  have d1 : decide (l.length < o.length) = false := decide_eq_false (by omega)
  have d2 : decide ((l.length : Int) < (o.length : Int)) = false := decide_eq_false (by omega)
  go_wp2
  clear d1 d2
  go_loopw [7, 8] (fun v i wr => ∃ k, k ≤ o.length ∧ i = .int .i64 (k : Nat) ∧ Sh (placesB l (o.take k) = true ∧ ahF l (o.take k) = true) ∧ Sh (Kd.R k38 38 wr w.heap.size (fun _ => True) v (deedsF l (o.take k))) ∧ Sh (Below w.heap.size w wr)) (fun v i _ => o.length - (intOf i).toNat)
  case atStart => exact ⟨0, Nat.zero_le _, rfl, ⟨rfl, rfl⟩, ⟨by simpa [deedsF] using Kd.R_nil _ _ _ _ _⟩, B3⟩
  case round =>
    obtain ⟨k, hk, rfl, HK, HA, HB⟩ := hrel
    by_cases hlt : k < o.length
    · have hCo := Kd.C_below HO.out HB.out
      have HFA := Sh.mk (fits_at (m := m) (l := l) k hlt)
      obtain ⟨adx, rfl, hx0⟩ := Kd.at_int hCo (k : Int) (by omega) (by omega)
      rw [Int.toNat_natCast] at hx0
      have HTS := Sh.mk (take_sucI o k hlt)
      obtain ⟨x, hx⟩ : ∃ x, x = rd o (k : Int) := ⟨_, rfl⟩
      rw [← hx] at hx0 HFA HTS
      obtain ⟨t, ht⟩ : ∃ t, t = o.take k := ⟨_, rfl⟩
      have htl : t.length = k := by rw [ht]; simp; omega
      have hcut : ∀ W : World, (Instr.slice 24 (.slice (some adx) o.length cB) none (some (.int .i64 (k : Int))) none).run Try.prog W = .ok (.slice (some adx) t.length cB) W := by
        obtain ⟨i3, hi3, _, hi4, _⟩ := infoO_parts info3
        have h1 := cut_to (P := Try.prog) 24 3 .i64 Try.underlying24 hi3 (some adx) o.length cB (k : Int) (by omega) (by omega) hcB
        rw [htl]
        simpa using h1
      have hCt : Kd.C (Kd.int .i64) wr (some adx) t.length t := by
        have := Kd.C_take (m := k) hCo (by omega)
        rwa [ht]
      rw [← ht] at HK HA HFA HTS
      have HT := Sh.mk hCt
      have HTL := Sh.mk htl
      have htc : t.length ≤ cB := by omega
      have htk : t.length ≤ 1000 := by omega
      have htg : ∀ j : Nat, j < k → rd o (j : Int) = rd t (j : Int) := fun j hj => by
        rw [ht]
        unfold rd
        rw [List.getD_eq_getElem?_getD, List.getD_eq_getElem?_getD, Int.toNat_natCast, List.getElem?_take_of_lt hj]
      have HTG := Sh.mk htg
      have HPI := Sh.mk (places_in HK.out.1)
      clear hx ht hCo hCt htl htg
      by_cases hx1 : x < 0
      · have HV : Sh (fitsB m l o = false) := ⟨by
          rw [Bool.eq_false_iff]
          intro h
          have := (HFA.out h).1
          unfold inB at this
          simp at this
          omega⟩
        have d1 : decide (x < 0) = true := decide_eq_true hx1
        go_wp2
        go_ret
        exact ⟨by rw [HV.out]; rfl, HB.out⟩
      have d1 : decide (x < 0) = false := decide_eq_false hx1
      by_cases hx2 : (l.length : Int) ≤ x
      · have HV : Sh (fitsB m l o = false) := ⟨by
          rw [Bool.eq_false_iff]
          intro h
          have := (HFA.out h).1
          unfold inB at this
          simp at this
          omega⟩
        have d2 : decide ((l.length : Int) ≤ x) = true := decide_eq_true hx2
        go_wp2
        go_ret
        exact ⟨by rw [HV.out]; rfl, HB.out⟩
      have d2 : decide ((l.length : Int) ≤ x) = false := decide_eq_false hx2
      have HIN : Sh (inB l x = true) := ⟨by unfold inB; simp; omega⟩
      go_wp2_with fail
      (with_reducible refine (in_any t x (some adx) cB wr HT.out htc htk).mono ?_); rintro e w2 ⟨rfl, b⟩
      have HB2 : Sh (Below w.heap.size w w2) := ⟨below_then HB.out HB.out.size b⟩
      have HW2 := Sh.mk b
      clear b d1 d2
      cases cI : decide (x ∈ t) with
      | true =>
        have HV : Sh (fitsB m l o = false) := ⟨by
          rw [Bool.eq_false_iff]
          intro h
          exact (HFA.out h).2.1 (of_decide_eq_true cI)⟩
        clear cI
        go_wp2
        go_ret
        exact ⟨by rw [HV.out]; rfl, HB2.out⟩
      | false =>
      have CI := Sh.mk cI
      clear cI hx0
      obtain ⟨wa, hwa⟩ : ∃ x, x = wr := ⟨_, rfl⟩
      subst hwa
      go_wp2
      go_loopw [10] (fun j w3 => ∃ i, i ≤ k ∧ j = .int .i64 (i : Nat) ∧ Sh (∀ i' : Nat, i' < i → ahB (opL l x) (opL l (rd t (i' : Int))) = false) ∧ Sh (Below w.heap.size w w3) ∧ Sh (Below wa.heap.size wa w3)) (fun j _ => k - (intOf j).toNat)
      case atStart => exact ⟨0, Nat.zero_le _, rfl, ⟨fun i' h => by omega⟩, HB2, HW2⟩
      case round =>
        obtain ⟨j, hj, rfl, HI, HB3, HW3⟩ := hrel
        by_cases hlt2 : j < k
        · have hCo := Kd.C_below HO.out HB3.out
          obtain ⟨ady, eay, hy0⟩ := Kd.at_int hCo (j : Int) (by omega) (by omega)
          cases eay
          rw [Int.toNat_natCast, HTG.out j hlt2] at hy0
          obtain ⟨y, hy⟩ : ∃ y, y = rd t (j : Int) := ⟨_, rfl⟩
          have hym := rd_memI t j (by have := HTL.out; omega)
          rw [← hy] at hy0 hym
          obtain ⟨hy1, hy2⟩ := HPI.out y hym
          obtain ⟨ad, rfl, a0, a1, a2, a3, a4, a5⟩ := at_T40 (Kd.C_below HR.out HB3.out) x (by omega) (by omega)
          obtain ⟨ad', ea, b0, b1, b2, b3, b4, b5⟩ := at_T40 (Kd.C_below HR.out HB3.out) y hy1 hy2
          cases ea
          obtain ⟨Y, hY⟩ : ∃ Y, Y = opL l y := ⟨_, rfl⟩
          obtain ⟨X, hX⟩ : ∃ X, X = opL l x := ⟨_, rfl⟩
          have HC := Sh.mk (And.intro hY (And.intro hX hy))
          have eY : rd_T40 l y = Y := hY.symm
          have eX : rd_T40 l x = X := hX.symm
          rw [eX] at a0 a1 a2 a3 a4 a5
          rw [eY] at b0 b1 b2 b3 b4 b5
          have HYM := Sh.mk hym
          have hx3 : 0 ≤ x := by omega
          have hx4 : x < (l.length : Int) := by omega
          have hj1 : (0 : Int) ≤ (j : Int) := by omega
          have hj2 : (j : Int) < (o.length : Int) := by omega
          clear hY hX hy eY eX hCo hym
          have HE : ∀ W, Below wr.heap.size wr W → Sh (W.cell? (adx.add j) = some (.int .i64 y) ∧ (W.cell? (ad.add (x.toNat * 6)) = some (.int .i64 X.f0.f0) ∧ W.cell? ⟨(ad.add (x.toNat * 6)).block, (ad.add (x.toNat * 6)).off + 1, none⟩ = some (.int .i64 X.f0.f1) ∧ W.cell? ⟨(ad.add (x.toNat * 6)).block, (ad.add (x.toNat * 6)).off + 2, none⟩ = some (.int .i64 X.f0.f2) ∧ W.cell? ⟨(ad.add (x.toNat * 6)).block, (ad.add (x.toNat * 6)).off + 3, none⟩ = some (.int .i64 X.f0.f3) ∧ W.cell? ⟨(ad.add (x.toNat * 6)).block, (ad.add (x.toNat * 6)).off + 4, none⟩ = some (.int .i64 X.f1) ∧ W.cell? ⟨(ad.add (x.toNat * 6)).block, (ad.add (x.toNat * 6)).off + 5, none⟩ = some (.int .i64 X.f2)) ∧ W.cell? (ad.add (y.toNat * 6)) = some (.int .i64 Y.f0.f0) ∧ W.cell? ⟨(ad.add (y.toNat * 6)).block, (ad.add (y.toNat * 6)).off + 1, none⟩ = some (.int .i64 Y.f0.f1) ∧ W.cell? ⟨(ad.add (y.toNat * 6)).block, (ad.add (y.toNat * 6)).off + 2, none⟩ = some (.int .i64 Y.f0.f2) ∧ W.cell? ⟨(ad.add (y.toNat * 6)).block, (ad.add (y.toNat * 6)).off + 3, none⟩ = some (.int .i64 Y.f0.f3) ∧ W.cell? ⟨(ad.add (y.toNat * 6)).block, (ad.add (y.toNat * 6)).off + 4, none⟩ = some (.int .i64 Y.f1) ∧ W.cell? ⟨(ad.add (y.toNat * 6)).block, (ad.add (y.toNat * 6)).off + 5, none⟩ = some (.int .i64 Y.f2)) := fun W hW => ⟨(hW.cell (World.block_lt_of_cell? _ _ hy0)).trans hy0, ⟨(hW.cell (World.block_lt_of_cell? _ _ a0)).trans a0, (hW.cell (World.block_lt_of_cell? _ _ a1)).trans a1, (hW.cell (World.block_lt_of_cell? _ _ a2)).trans a2, (hW.cell (World.block_lt_of_cell? _ _ a3)).trans a3, (hW.cell (World.block_lt_of_cell? _ _ a4)).trans a4, (hW.cell (World.block_lt_of_cell? _ _ a5)).trans a5⟩, (hW.cell (World.block_lt_of_cell? _ _ b0)).trans b0, (hW.cell (World.block_lt_of_cell? _ _ b1)).trans b1, (hW.cell (World.block_lt_of_cell? _ _ b2)).trans b2, (hW.cell (World.block_lt_of_cell? _ _ b3)).trans b3, (hW.cell (World.block_lt_of_cell? _ _ b4)).trans b4, (hW.cell (World.block_lt_of_cell? _ _ b5)).trans b5⟩
          clear a0 a1 a2 a3 a4 a5 b0 b1 b2 b3 b4 b5 hy0
          have A0 := (HE wr (Below.refl _ _)).out
          go_wp2
          go_region_held3 (fun W => W.cell? (adx.add j) = some (.int .i64 y) ∧ (W.cell? (ad.add (x.toNat * 6)) = some (.int .i64 X.f0.f0) ∧ W.cell? ⟨(ad.add (x.toNat * 6)).block, (ad.add (x.toNat * 6)).off + 1, none⟩ = some (.int .i64 X.f0.f1) ∧ W.cell? ⟨(ad.add (x.toNat * 6)).block, (ad.add (x.toNat * 6)).off + 2, none⟩ = some (.int .i64 X.f0.f2) ∧ W.cell? ⟨(ad.add (x.toNat * 6)).block, (ad.add (x.toNat * 6)).off + 3, none⟩ = some (.int .i64 X.f0.f3) ∧ W.cell? ⟨(ad.add (x.toNat * 6)).block, (ad.add (x.toNat * 6)).off + 4, none⟩ = some (.int .i64 X.f1) ∧ W.cell? ⟨(ad.add (x.toNat * 6)).block, (ad.add (x.toNat * 6)).off + 5, none⟩ = some (.int .i64 X.f2)) ∧ W.cell? (ad.add (y.toNat * 6)) = some (.int .i64 Y.f0.f0) ∧ W.cell? ⟨(ad.add (y.toNat * 6)).block, (ad.add (y.toNat * 6)).off + 1, none⟩ = some (.int .i64 Y.f0.f1) ∧ W.cell? ⟨(ad.add (y.toNat * 6)).block, (ad.add (y.toNat * 6)).off + 2, none⟩ = some (.int .i64 Y.f0.f2) ∧ W.cell? ⟨(ad.add (y.toNat * 6)).block, (ad.add (y.toNat * 6)).off + 3, none⟩ = some (.int .i64 Y.f0.f3) ∧ W.cell? ⟨(ad.add (y.toNat * 6)).block, (ad.add (y.toNat * 6)).off + 4, none⟩ = some (.int .i64 Y.f1) ∧ W.cell? ⟨(ad.add (y.toNat * 6)).block, (ad.add (y.toNat * 6)).off + 5, none⟩ = some (.int .i64 Y.f2)) (first | exact (HE _ (Below.refl _ _)).out | exact (HE _ (Below.refl _ _).drew).out | exact (HE _ B4.out).out | exact (HE _ B4.out.drew).out) ((go_at_call 36; (with_reducible refine (rahead_any X Y _).mono ?_); rintro e w4 ⟨rfl, b⟩; have B4 : Sh (Below wr.heap.size wr w4) := ⟨by first | exact b | exact below_step (Below.refl _ _).drew b⟩; clear b))
          have HB4 : Sh (Below w.heap.size w w4) := ⟨below_then HB3.out HB3.out.size B4.out⟩
          have HW4 : Sh (Below wa.heap.size wa w4) := ⟨below_then HW3.out HW3.out.size B4.out⟩
          clear HE A0
          cases cA : ahB X Y with
          | true =>
            have HV : Sh (fitsB m l o = false) := ⟨by
              rw [Bool.eq_false_iff]
              intro h
              have := (HFA.out h).2.2 y HYM.out
              rw [← HC.out.1, ← HC.out.2.1, cA] at this
              cases this⟩
            clear cA
            go_wp2
            go_ret
            exact ⟨by rw [HV.out]; rfl, HB4.out⟩
          | false =>
            have HI3 : Sh (∀ i' : Nat, i' < j + 1 → ahB (opL l x) (opL l (rd t (i' : Int))) = false) := ⟨fun i' h => by
              by_cases e : i' = j
              · subst e
                rw [← HC.out.2.2, ← HC.out.1, ← HC.out.2.1, cA]
              · exact HI.out i' (by omega)⟩
            clear cA
            go_wp2
            go_roundw
            case rel => exact ⟨j + 1, by omega, by go_num, HI3, HB4, HW4⟩
            case measure => simp [intOf]; omega
        · obtain rfl : j = k := by omega
          have HK2 : Sh (placesB l (o.take (j + 1)) = true ∧ ahF l (o.take (j + 1)) = true) := ⟨by
            rw [HTS.out, placesB_snoc, ahF_snoc, HK.out.1, HK.out.2, HIN.out, CI.out]
            refine ⟨rfl, ?_⟩
            rw [Bool.true_and, List.all_eq_true]
            intro p hp
            obtain ⟨i', hi', rfl⟩ := List.mem_iff_getElem.1 hp
            have := HI.out i' (by have := HTL.out; omega)
            rw [show rd t (i' : Int) = t[i'] by simp [rd, List.getD_eq_getElem?_getD, List.getElem?_eq_getElem hi']] at this
            rw [this]; rfl⟩
          obtain ⟨acc, hacc⟩ : ∃ acc, acc = deedsF l t := ⟨_, rfl⟩
          have hal : acc.length ≤ 1000 := by rw [hacc, deedsF_len]; omega
          have HTS2 : Sh (deedsF l (o.take (j + 1)) = acc ++ [(opL l x).f0]) := ⟨by rw [HTS.out, deedsF_app, hacc]; rfl⟩
          rw [← hacc] at HA
          obtain ⟨X, hX⟩ : ∃ X, X = opL l x := ⟨_, rfl⟩
          rw [← hX] at HTS2
          have HA2 := Sh.mk (Kd.R_below HA.out HW3.out)
          obtain ⟨Ac, cc, eac⟩ := Kd.R_slice HA2.out
          subst eac
          obtain ⟨ad, rfl, a0, a1, a2, a3, a4, a5⟩ := at_T40 (Kd.C_below HR.out HB3.out) x (by omega) (by omega)
          have hx3 : 0 ≤ x := by omega
          have hx4 : x < (l.length : Int) := by omega
          have eX : rd_T40 l x = X := hX.symm
          rw [eX] at a0 a1 a2 a3 a4 a5
          clear hacc hX eX
          go_wp2_with (first | ((with_reducible refine gate_builtin (b := .append) (xs := #[.tmp 67, .tmp 73]) rfl ?_); at_builtin; refine Kd.R_append k38 (w0 := w) w.heap.size rfl (.tmp 67) (.tmp 73) 35 38 (.agg #[(.int .i64 0), (.int .i64 0), (.int .i64 0), (.int .i64 0)]) 32 rfl Try.underlying35 info38 rfl (by decide) (by omega) (.slice Ac acc.length cc) acc X.f0 [.int .i64 X.f0.f0, .int .i64 X.f0.f1, .int .i64 X.f0.f2, .int .i64 X.f0.f3] (fun k => True) (fun _ => False) rfl rfl ?aP (fun _ hk => hk.elim) ?aF ?aO ?aB ?aS ?aL ?_; (case aP => exact k38_mkM _ _ _ X.f0); (case aB => exact HB3.out); (case aF => exact fun _ _ => trivial); (case aO => exact HA2.out); (case aS => exact HB3.out.size); (case aL => omega); intro v1 w1 ho hb hg hat; have HZ := Sh.mk ho; have HZB := Sh.mk hb; clear ho hb hg hat))
          go_roundw
          case rel => exact ⟨j + 1, by omega, by go_num, HK2, ⟨by rw [HTS2.out]; exact HZ.out⟩, HZB⟩
          case measure => simp [intOf]; omega
    · obtain rfl : k = o.length := by omega
      have hk0 := HK.out
      have ha := HA.out
      rw [List.take_length] at ha hk0
      have HV : Sh (fitsB m l o = (fullB l o && (accsL m [] (deedsF l o)).2.2)) := ⟨by unfold fitsB; rw [C1.out, hk0.1, hk0.2]; simp⟩
      obtain ⟨D, hD⟩ : ∃ D, D = deedsF l o := ⟨_, rfl⟩
      have hdl : D.length ≤ 1000 := by rw [hD, deedsF_len]; omega
      rw [← hD] at ha HV
      have HA2 := Sh.mk ha
      obtain ⟨Ac, cc, eac⟩ := Kd.R_slice ha
      subst eac
      clear ha hk0 hD HA HK
      obtain ⟨wa, hwa⟩ : ∃ x, x = wr := ⟨_, rfl⟩
      subst hwa
      go_wp2
      go_loopw [11] (fun j w3 => ∃ i, i ≤ l.length ∧ j = .int .i64 (i : Nat) ∧ Sh (∀ i' : Nat, i' < i → (!endB (opL l (i' : Int)) || decide ((i' : Int) ∈ o)) = true) ∧ Sh (Below w.heap.size w w3) ∧ Sh (Below wa.heap.size wa w3)) (fun j _ => l.length - (intOf j).toNat)
      case atStart => exact ⟨0, Nat.zero_le _, rfl, ⟨fun i' h => by omega⟩, HB, ⟨Below.refl _ _⟩⟩
      case round =>
        obtain ⟨j, hj, rfl, HI, HB3, HW3⟩ := hrel
        by_cases hlt2 : j < l.length
        · obtain ⟨ad, rfl, a0, a1, a2, a3, a4, a5⟩ := at_T40 (Kd.C_below HR.out HB3.out) (j : Int) (by omega) (by omega)
          obtain ⟨X, hX⟩ : ∃ X, X = opL l (j : Int) := ⟨_, rfl⟩
          have eX : rd_T40 l (j : Int) = X := hX.symm
          have HC := Sh.mk hX
          rw [eX] at a0 a1 a2 a3 a4 a5
          rw [Int.toNat_natCast] at a0 a1 a2 a3 a4 a5
          clear hX eX
          cases he : endB X with
          | false =>
            have d1 : (X.f2 != -1) = false := he
            have HI3 : Sh (∀ i' : Nat, i' < j + 1 → (!endB (opL l (i' : Int)) || decide ((i' : Int) ∈ o)) = true) := ⟨fun i' h => by
              by_cases e : i' = j
              · subst e
                rw [← HC.out, he]; rfl
              · exact HI.out i' (by omega)⟩
            clear he
            go_wp2
            go_roundw
            case rel => exact ⟨j + 1, by omega, by go_num, HI3, HB3, HW3⟩
            case measure => simp [intOf]; omega
          | true =>
            have d1 : (X.f2 != -1) = true := he
            have HE := Sh.mk he
            clear he
            go_wp2_with fail
            (with_reducible refine (in_any o (j : Int) B cB wr (Kd.C_below HO.out HB3.out) hcB (by omega)).mono ?_); rintro e w4 ⟨rfl, b⟩
            have HB4 : Sh (Below w.heap.size w w4) := ⟨below_then HB3.out HB3.out.size b⟩
            have HW4 : Sh (Below wa.heap.size wa w4) := ⟨below_then HW3.out HW3.out.size b⟩
            clear b
            cases cI : decide ((j : Int) ∈ o) with
            | false =>
              have HV2 : Sh (fitsB m l o = false) := ⟨by
                rw [HV.out]
                have : fullB l o = false := by
                  rw [Bool.eq_false_iff]
                  intro h
                  have := List.all_eq_true.1 h j (List.mem_range.2 hlt2)
                  rw [← HC.out, HE.out, cI] at this
                  cases this
                rw [this]; rfl⟩
              clear cI
              go_wp2
              go_ret
              exact ⟨by rw [HV2.out]; rfl, HB4.out⟩
            | true =>
              have HI3 : Sh (∀ i' : Nat, i' < j + 1 → (!endB (opL l (i' : Int)) || decide ((i' : Int) ∈ o)) = true) := ⟨fun i' h => by
                by_cases e : i' = j
                · subst e
                  rw [cI]; simp
                · exact HI.out i' (by omega)⟩
              clear cI
              go_wp2
              go_roundw
              case rel => exact ⟨j + 1, by omega, by go_num, HI3, HB4, HW4⟩
              case measure => simp [intOf]; omega
        · obtain rfl : j = l.length := by omega
          have HV2 : Sh (fitsB m l o = (accsL m [] D).2.2) := ⟨by
            rw [HV.out]
            have : fullB l o = true := List.all_eq_true.2 (fun i hi => HI.out i (List.mem_range.1 hi))
            rw [this]; rfl⟩
          have HA3 := Sh.mk (Kd.R_reads' (Kd.R_below HA2.out HW3.out))
          clear HI
          go_wp2_with fail
          (with_reducible refine (raccepts_anyR HMM.out hdl HA3.out.2.2 HA3.out.2.1).mono ?_); rintro e w6 ⟨A6, n6, c6, rfl, b⟩
          have HB6 : Sh (Below w.heap.size w w6) := ⟨below_then HB3.out HB3.out.size b⟩
          clear b
          go_wp2
          go_ret
          exact ⟨by rw [HV2.out]; rfl, below_alloc HB6.out _⟩
end Go.Proofs.Ytpddppipjlagfaa

/- The document's may: its contract. No statement is proved here. -/
namespace Go.Proofs.Ytpddppipjlagfaa
set_option linter.unusedVariables false
set_option linter.unusedSimpArgs false
open Go.RowKit Go.Proofs.YtpddppipjlagfaaW.PrintWords Go.Proofs.YtpddppipjlagfaaW.PrintLast Go.Proofs.YtpddppipjlagfaaW.PrintMore Pr Go.Proofs.Ytpddppipjlagfaa.Pure

set_option maxRecDepth 100000 in
set_option maxHeartbeats 16000000 in
theorem rmay_any (m : Int) (A : Option Addr) (c : Nat) (l : List Oq) (B : Option Addr) (cB : Nat) (o : List Int) (y : Int) (w : World) (hm : mOk m) (hr : Kd.C k40 w A l.length l) (hc : l.length ≤ c) (ho : Kd.C (Kd.int .i64) w B o.length o) (hcB : o.length ≤ cB) (hl : l.length ≤ 500) (hol : o.length ≤ 900) (hin : ∀ x ∈ o, 0 ≤ x ∧ x < (l.length : Int)) (hy : 0 ≤ y ∧ y < (l.length : Int)) :
    Calls Try.prog 34 #[.int .i64 m, .slice A l.length c, .slice B o.length cB, .int .i64 y] w fun e w' => e = .returned (.bool (mayN m l o y)) ∧ Below w.heap.size w w' := by
  have hu := Try.underlying40
  have hu2 := Try.underlying43
  have hu3 := Try.underlying38
  have HR := Sh.mk hr
  have HO := Sh.mk ho
  have HMM := Sh.mk hm
  have HIN := Sh.mk hin
  obtain ⟨hy1, hy2⟩ := hy
  clear hr ho hm hin
  go_enter Try.func34, Try.ntmps34
  go_wp2_with fail
  (with_reducible refine (in_any o y B cB w HO.out hcB (by omega)).mono ?_); rintro e w1 ⟨rfl, b⟩
  have B3 := Sh.mk b
  clear b
  cases c1 : decide (y ∈ o) with
  | true =>
    have HV : Sh (mayN m l o y = false) := ⟨by unfold mayN; rw [c1]; rfl⟩
    clear c1
    go_wp2
    go_ret
    exact ⟨by rw [HV.out]; rfl, B3.out⟩
  | false =>
  have HV : Sh (mayN m l o y = ((o.all fun p => !ahB (opL l y) (opL l p)) && (accsL m [] (deedsF l (o ++ [y]))).2.2)) := ⟨by unfold mayN; rw [c1]; rfl⟩
  obtain ⟨Y, hY⟩ : ∃ Y, Y = opL l y := ⟨_, rfl⟩
  have HY := Sh.mk hY
  clear c1 hY
  go_wp2
  go_loopw [9, 10] (fun v i wr => ∃ k, k ≤ o.length ∧ i = .int .i64 (k : Nat) ∧ Sh (∀ i' : Nat, i' < k → ahB (opL l y) (opL l (rd o (i' : Int))) = false) ∧ Sh (Kd.R k38 38 wr w.heap.size (fun _ => True) v (deedsF l (o.take k))) ∧ Sh (Below w.heap.size w wr)) (fun v i _ => o.length - (intOf i).toNat)
  case atStart => exact ⟨0, Nat.zero_le _, rfl, ⟨fun i' h => by omega⟩, ⟨by simpa [deedsF] using Kd.R_nil _ _ _ _ _⟩, B3⟩
  case round =>
    obtain ⟨j, hj, rfl, HI, HA, HBB⟩ := hrel
    by_cases hlt : j < o.length
    · have hCo := Kd.C_below HO.out HBB.out
      obtain ⟨adx, rfl, hx0⟩ := Kd.at_int hCo (j : Int) (by omega) (by omega)
      rw [Int.toNat_natCast] at hx0
      have HTS := Sh.mk (take_sucI o j hlt)
      have hxm := rd_memI o j hlt
      obtain ⟨x, hx⟩ : ∃ x, x = rd o (j : Int) := ⟨_, rfl⟩
      rw [← hx] at hx0 HTS hxm
      obtain ⟨hx1, hx2⟩ := HIN.out x hxm
      obtain ⟨acc, hacc⟩ : ∃ acc, acc = deedsF l (o.take j) := ⟨_, rfl⟩
      have hal : acc.length ≤ 1000 := by rw [hacc, deedsF_len]; simp; omega
      have HTS2 : Sh (deedsF l (o.take (j + 1)) = acc ++ [(opL l x).f0]) := ⟨by rw [HTS.out, deedsF_app, hacc]; rfl⟩
      rw [← hacc] at HA
      obtain ⟨ad, rfl, a0, a1, a2, a3, a4, a5⟩ := at_T40 (Kd.C_below HR.out HBB.out) y (by omega) (by omega)
      obtain ⟨ad', ea, b0, b1, b2, b3, b4, b5⟩ := at_T40 (Kd.C_below HR.out HBB.out) x hx1 hx2
      cases ea
      obtain ⟨X, hX⟩ : ∃ X, X = opL l x := ⟨_, rfl⟩
      have HC := Sh.mk (And.intro hX hx)
      have eY : rd_T40 l y = Y := HY.out.symm
      have eX : rd_T40 l x = X := hX.symm
      rw [eY] at a0 a1 a2 a3 a4 a5
      rw [eX] at b0 b1 b2 b3 b4 b5
      rw [← hX] at HTS2
      have hj1 : (0 : Int) ≤ (j : Int) := by omega
      have hj2 : (j : Int) < (o.length : Int) := by omega
      clear hX hx eY eX hCo hxm hacc
      have HE : ∀ W, Below wr.heap.size wr W → Sh (W.cell? (adx.add j) = some (.int .i64 x) ∧ (W.cell? (ad.add (y.toNat * 6)) = some (.int .i64 Y.f0.f0) ∧ W.cell? ⟨(ad.add (y.toNat * 6)).block, (ad.add (y.toNat * 6)).off + 1, none⟩ = some (.int .i64 Y.f0.f1) ∧ W.cell? ⟨(ad.add (y.toNat * 6)).block, (ad.add (y.toNat * 6)).off + 2, none⟩ = some (.int .i64 Y.f0.f2) ∧ W.cell? ⟨(ad.add (y.toNat * 6)).block, (ad.add (y.toNat * 6)).off + 3, none⟩ = some (.int .i64 Y.f0.f3) ∧ W.cell? ⟨(ad.add (y.toNat * 6)).block, (ad.add (y.toNat * 6)).off + 4, none⟩ = some (.int .i64 Y.f1) ∧ W.cell? ⟨(ad.add (y.toNat * 6)).block, (ad.add (y.toNat * 6)).off + 5, none⟩ = some (.int .i64 Y.f2)) ∧ W.cell? (ad.add (x.toNat * 6)) = some (.int .i64 X.f0.f0) ∧ W.cell? ⟨(ad.add (x.toNat * 6)).block, (ad.add (x.toNat * 6)).off + 1, none⟩ = some (.int .i64 X.f0.f1) ∧ W.cell? ⟨(ad.add (x.toNat * 6)).block, (ad.add (x.toNat * 6)).off + 2, none⟩ = some (.int .i64 X.f0.f2) ∧ W.cell? ⟨(ad.add (x.toNat * 6)).block, (ad.add (x.toNat * 6)).off + 3, none⟩ = some (.int .i64 X.f0.f3) ∧ W.cell? ⟨(ad.add (x.toNat * 6)).block, (ad.add (x.toNat * 6)).off + 4, none⟩ = some (.int .i64 X.f1) ∧ W.cell? ⟨(ad.add (x.toNat * 6)).block, (ad.add (x.toNat * 6)).off + 5, none⟩ = some (.int .i64 X.f2)) := fun W hW => ⟨(hW.cell (World.block_lt_of_cell? _ _ hx0)).trans hx0, ⟨(hW.cell (World.block_lt_of_cell? _ _ a0)).trans a0, (hW.cell (World.block_lt_of_cell? _ _ a1)).trans a1, (hW.cell (World.block_lt_of_cell? _ _ a2)).trans a2, (hW.cell (World.block_lt_of_cell? _ _ a3)).trans a3, (hW.cell (World.block_lt_of_cell? _ _ a4)).trans a4, (hW.cell (World.block_lt_of_cell? _ _ a5)).trans a5⟩, (hW.cell (World.block_lt_of_cell? _ _ b0)).trans b0, (hW.cell (World.block_lt_of_cell? _ _ b1)).trans b1, (hW.cell (World.block_lt_of_cell? _ _ b2)).trans b2, (hW.cell (World.block_lt_of_cell? _ _ b3)).trans b3, (hW.cell (World.block_lt_of_cell? _ _ b4)).trans b4, (hW.cell (World.block_lt_of_cell? _ _ b5)).trans b5⟩
      clear a0 a1 a2 a3 a4 a5 b0 b1 b2 b3 b4 b5 hx0
      have A0 := (HE wr (Below.refl _ _)).out
      go_wp2
      go_region_held3 (fun W => W.cell? (adx.add j) = some (.int .i64 x) ∧ (W.cell? (ad.add (y.toNat * 6)) = some (.int .i64 Y.f0.f0) ∧ W.cell? ⟨(ad.add (y.toNat * 6)).block, (ad.add (y.toNat * 6)).off + 1, none⟩ = some (.int .i64 Y.f0.f1) ∧ W.cell? ⟨(ad.add (y.toNat * 6)).block, (ad.add (y.toNat * 6)).off + 2, none⟩ = some (.int .i64 Y.f0.f2) ∧ W.cell? ⟨(ad.add (y.toNat * 6)).block, (ad.add (y.toNat * 6)).off + 3, none⟩ = some (.int .i64 Y.f0.f3) ∧ W.cell? ⟨(ad.add (y.toNat * 6)).block, (ad.add (y.toNat * 6)).off + 4, none⟩ = some (.int .i64 Y.f1) ∧ W.cell? ⟨(ad.add (y.toNat * 6)).block, (ad.add (y.toNat * 6)).off + 5, none⟩ = some (.int .i64 Y.f2)) ∧ W.cell? (ad.add (x.toNat * 6)) = some (.int .i64 X.f0.f0) ∧ W.cell? ⟨(ad.add (x.toNat * 6)).block, (ad.add (x.toNat * 6)).off + 1, none⟩ = some (.int .i64 X.f0.f1) ∧ W.cell? ⟨(ad.add (x.toNat * 6)).block, (ad.add (x.toNat * 6)).off + 2, none⟩ = some (.int .i64 X.f0.f2) ∧ W.cell? ⟨(ad.add (x.toNat * 6)).block, (ad.add (x.toNat * 6)).off + 3, none⟩ = some (.int .i64 X.f0.f3) ∧ W.cell? ⟨(ad.add (x.toNat * 6)).block, (ad.add (x.toNat * 6)).off + 4, none⟩ = some (.int .i64 X.f1) ∧ W.cell? ⟨(ad.add (x.toNat * 6)).block, (ad.add (x.toNat * 6)).off + 5, none⟩ = some (.int .i64 X.f2)) (first | exact (HE _ (Below.refl _ _)).out | exact (HE _ (Below.refl _ _).drew).out | exact (HE _ B4.out).out | exact (HE _ B4.out.drew).out) ((go_at_call 36; (with_reducible refine (rahead_any Y X _).mono ?_); rintro e w4 ⟨rfl, b⟩; have B4 : Sh (Below wr.heap.size wr w4) := ⟨by first | exact b | exact below_step (Below.refl _ _).drew b⟩; clear b))
      have HB4 : Sh (Below w.heap.size w w4) := ⟨below_then HBB.out HBB.out.size B4.out⟩
      have A4 := (HE w4 B4.out).out
      obtain ⟨hx0, -, b0, b1, b2, b3, b4, b5⟩ := A4
      clear HE A0
      cases cA : ahB Y X with
      | true =>
        have HV2 : Sh (mayN m l o y = false) := ⟨by
          rw [HV.out]
          have : (o.all fun p => !ahB (opL l y) (opL l p)) = false := by
            rw [Bool.eq_false_iff]
            intro h
            have := List.all_eq_true.1 h x (by rw [HC.out.2]; exact rd_memI o j hlt)
            rw [← HC.out.1, ← HY.out, cA] at this
            cases this
          rw [this]; rfl⟩
        clear cA
        go_wp2
        go_ret
        exact ⟨by rw [HV2.out]; rfl, HB4.out⟩
      | false =>
        have HI3 : Sh (∀ i' : Nat, i' < j + 1 → ahB (opL l y) (opL l (rd o (i' : Int))) = false) := ⟨fun i' h => by
          by_cases e : i' = j
          · subst e
            rw [← HC.out.2, ← HC.out.1, ← HY.out, cA]
          · exact HI.out i' (by omega)⟩
        clear cA
        have HA2 := Sh.mk (Kd.R_below HA.out B4.out)
        clear HBB
        have HBB := HB4
        obtain ⟨Ac, cc, eac⟩ := Kd.R_slice HA2.out
        subst eac
        go_wp2_with (first | ((with_reducible refine gate_builtin (b := .append) (xs := #[.tmp 35, .tmp 44]) rfl ?_); at_builtin; refine Kd.R_append k38 (w0 := w) w.heap.size rfl (.tmp 35) (.tmp 44) 35 38 (.agg #[(.int .i64 0), (.int .i64 0), (.int .i64 0), (.int .i64 0)]) 32 rfl Try.underlying35 info38 rfl (by decide) (by omega) (.slice Ac acc.length cc) acc X.f0 [.int .i64 X.f0.f0, .int .i64 X.f0.f1, .int .i64 X.f0.f2, .int .i64 X.f0.f3] (fun k => True) (fun _ => False) rfl rfl ?aP (fun _ hk => hk.elim) ?aF ?aO ?aB ?aS ?aL ?_; (case aP => exact k38_mkM _ _ _ X.f0); (case aB => exact HBB.out); (case aF => exact fun _ _ => trivial); (case aO => exact HA2.out); (case aS => exact HBB.out.size); (case aL => omega); intro v1 w1 ho hb hg hat; have HZ := Sh.mk ho; have HZB := Sh.mk hb; clear ho hb hg hat))
        go_roundw
        case rel => exact ⟨j + 1, by omega, by go_num, HI3, ⟨by rw [HTS2.out]; exact HZ.out⟩, HZB⟩
        case measure => simp [intOf]; omega
    · obtain rfl : j = o.length := by omega
      have ha := HA.out
      rw [List.take_length] at ha
      have HV2 : Sh (mayN m l o y = (accsL m [] (deedsF l o ++ [Y.f0])).2.2) := ⟨by
        rw [HV.out, deedsF_app, show deedsF l [y] = [(opL l y).f0] from rfl, ← HY.out]
        have : (o.all fun p => !ahB Y (opL l p)) = true := by
          rw [List.all_eq_true]
          intro p hp
          obtain ⟨i', hi', rfl⟩ := List.mem_iff_getElem.1 hp
          have := HI.out i' hi'
          rw [show rd o (i' : Int) = o[i'] by simp [rd, List.getD_eq_getElem?_getD, List.getElem?_eq_getElem hi'], ← HY.out] at this
          rw [this]; rfl
        rw [this]; rfl⟩
      obtain ⟨acc, hacc⟩ : ∃ acc, acc = deedsF l o := ⟨_, rfl⟩
      have hal : acc.length ≤ 999 := by rw [hacc, deedsF_len]; omega
      rw [← hacc] at ha HV2
      have HA2 := Sh.mk ha
      obtain ⟨Ac, cc, eac⟩ := Kd.R_slice ha
      subst eac
      obtain ⟨ad, rfl, a0, a1, a2, a3, a4, a5⟩ := at_T40 (Kd.C_below HR.out HBB.out) y (by omega) (by omega)
      have eY : rd_T40 l y = Y := HY.out.symm
      rw [eY] at a0 a1 a2 a3 a4 a5
      obtain ⟨X, hX⟩ : ∃ X, X = Y := ⟨_, rfl⟩
      subst hX
      obtain ⟨acc2, hacc2⟩ : ∃ z, z = acc ++ [X.f0] := ⟨_, rfl⟩
      have hlx : acc2.length ≤ 1000 := by rw [hacc2]; simp; omega
      rw [← hacc2] at HV2
      have HAE := Sh.mk hacc2
      clear hacc2
      clear ha hacc HI HA eY
      go_wp2_with (first | ((with_reducible refine gate_builtin (b := .append) (xs := #[.tmp 49, .tmp 55]) rfl ?_); at_builtin; refine Kd.R_append k38 (w0 := w) w.heap.size rfl (.tmp 49) (.tmp 55) 35 38 (.agg #[(.int .i64 0), (.int .i64 0), (.int .i64 0), (.int .i64 0)]) 32 rfl Try.underlying35 info38 rfl (by decide) (by omega) (.slice Ac acc.length cc) acc X.f0 [.int .i64 X.f0.f0, .int .i64 X.f0.f1, .int .i64 X.f0.f2, .int .i64 X.f0.f3] (fun k => True) (fun _ => False) rfl rfl ?aP (fun _ hk => hk.elim) ?aF ?aO ?aB ?aS ?aL ?_; (case aP => exact k38_mkM _ _ _ X.f0); (case aB => exact HBB.out); (case aF => exact fun _ _ => trivial); (case aO => exact HA2.out); (case aS => exact HBB.out.size); (case aL => omega); intro v1 w1 ho hb hg hat; have HZ := Sh.mk ho; have HZB := Sh.mk hb; rw [← HAE.out] at HZ; obtain ⟨A7, c7, e7⟩ := Kd.R_slice HZ.out; subst e7; have HAC := Sh.mk (raccepts_anyR HMM.out hlx (Kd.R_reads' HZ.out).2.2 (Kd.R_reads' HZ.out).2.1); clear ho hb hg hat))
      go_wp2_with fail
      (with_reducible refine HAC.out.mono ?_); rintro e w6 ⟨A6, n6, c6, rfl, b⟩
      have HB6 : Sh (Below w.heap.size w w6) := ⟨below_then HZB.out HZB.out.size b⟩
      clear b
      go_wp2
      go_ret
      exact ⟨by rw [HV2.out]; rfl, below_alloc HB6.out _⟩
end Go.Proofs.Ytpddppipjlagfaa

/- The document's Order: its contract. No statement is proved here. -/
namespace Go.Proofs.Ytpddppipjlagfaa
set_option linter.unusedVariables false
set_option linter.unusedSimpArgs false
open Go.RowKit Go.Proofs.YtpddppipjlagfaaW.PrintWords Go.Proofs.YtpddppipjlagfaaW.PrintLast Go.Proofs.YtpddppipjlagfaaW.PrintMore Pr Go.Proofs.Ytpddppipjlagfaa.Pure Go.Proofs.Ytpddppipjlagfaa.Dfs

def OrdPost (m : Int) (l : List Oq) (w : World) (e : Ending) (w' : World) : Prop := ∃ r : Option (List Nat), ordP m l r ∧ ∃ v, e = .returned (.tuple #[v, .bool r.isSome]) ∧ Kd.R (Kd.int .i64) 3 w' w.heap.size (fun _ => True) v (upI (r.getD [])) ∧ Below w.heap.size w w'
theorem k_int_mkM (w : World) (base : Nat) (ok : Nat → Prop) (x : Int) : (Kd.int .i64).M w base ok x [.int .i64 x] := rfl
theorem own_nil (W : World) {b : Nat} (h : b ≤ W.heap.size) : Kd.R (Kd.int .i64) 3 (W.alloc (.cells #[] 3)) b (fun _ => True) (.slice (some ⟨W.heap.size, 0, none⟩) 0 0) ([] : List Int) :=
  ⟨fun _ _ => trivial, [], World.ownsRow_made W #[] 0 h (by simp [maxLen]) (by rfl), Reps.none _ _⟩
set_option maxRecDepth 100000 in
set_option maxHeartbeats 16000000 in
theorem rorder_any (m : Int) (A : Option Addr) (c : Nat) (l : List Oq) (w : World) (hm : mOk m) (hr : Kd.C k40 w A l.length l) (hc : l.length ≤ c) (hl : l.length ≤ 500) :
    Calls Try.prog 21 #[.int .i64 m, .slice A l.length c] w (OrdPost m l w) := by
  have hu := Try.underlying40
  have HR := Sh.mk hr
  have HMM := Sh.mk hm
  obtain ⟨km, hkm⟩ := (rmay_ev l (by omega)).rounds
  have HM := Sh.mk (rickyardref26_MayOps.calls km A c l (mayB l) w hr hc hkm)
  clear hr hm hkm
  go_enter Try.func21, Try.ntmps21
  go_wp2_with fail
  (with_reducible refine HM.out.mono ?_); rintro e w1 ⟨rfl, b⟩
  have B3 := Sh.mk b
  clear b HM
  cases c1 : mayB l with
  | false =>
    have HV : Sh (ordP m l none) := ⟨by unfold ordP; rw [if_neg (by simp [c1])]⟩
    clear c1
    go_wp2
    refine bodyPost_ret (v := .tuple #[.slice none 0 0, .bool false]) (by simp [results, Try.results21, go_sem]) rfl ?_
    exact ⟨none, HV.out, .slice none 0 0, rfl, Kd.R_nil _ _ _ _ _, B3.out⟩
  | true =>
  by_cases c2 : l.length ≤ 8
  case neg =>
    have HV : Sh (ordP m l none) := ⟨by unfold ordP; rw [if_neg (fun h => c2 h.2)]⟩
    have d1 : decide (8 < l.length) = true := decide_eq_true (by omega)
    have d2 : decide ((8 : Int) < (l.length : Int)) = true := decide_eq_true (by omega)
    clear c1
    go_wp2
    refine bodyPost_ret (v := .tuple #[.slice none 0 0, .bool false]) (by simp [results, Try.results21, go_sem]) rfl ?_
    exact ⟨none, HV.out, .slice none 0 0, rfl, Kd.R_nil _ _ _ _ _, B3.out⟩
  case pos =>
  have CB := Sh.mk (And.intro c1 c2)
  have d1 : decide (8 < l.length) = false := decide_eq_false (by omega)
  have d2 : decide ((8 : Int) < (l.length : Int)) = false := decide_eq_false (by omega)
  clear c1
  go_wp2
  clear d1 d2
  go_loopg [6, 7] (mu l.length [] 0) (fun g v f wr => ∃ (P : List Nat) (fi : Nat), f = .int .i64 (fi : Nat) ∧ Sh (g = mu l.length P fi ∧ SI m l P fi) ∧ Sh (Kd.R (Kd.int .i64) 3 wr w.heap.size (fun _ => True) v (upI P)) ∧ Sh (Below w.heap.size w wr))
  case atStart => exact ⟨[], 0, rfl, ⟨rfl, SI.start m l⟩, ⟨Kd.R_nil _ _ _ _ _⟩, B3⟩
  case round =>
    obtain ⟨P, fi, rfl, HS, HA, HBR⟩ := hrel
    obtain ⟨o, ho⟩ : ∃ o, o = upI P := ⟨_, rfl⟩
    have HPL : Sh (o.length ≤ 8) := ⟨by have := HS.out.2.len; rw [ho, upI_len]; omega⟩
    have HOI : Sh (∀ x ∈ o, 0 ≤ x ∧ x < (l.length : Int)) := ⟨by rw [ho]; exact places_in HS.out.2.pl⟩
    rw [← ho] at HA
    have HP := Sh.mk ho
    clear ho
    obtain ⟨Ao, co, eo⟩ := Kd.R_slice HA.out
    subst eo
    have HRO := Sh.mk (Kd.R_reads' HA.out)
    have hol : o.length ≤ 8 := HPL.out
    rcases Nat.eq_zero_or_pos fi with h0 | h0
    · subst h0
      have e0 : ((0 : Int) == 0) = true := rfl
      go_wp2_with fail
      (with_reducible refine (rfits_any m A c l Ao co o wr HMM.out (Kd.C_below HR.out HBR.out) hc HRO.out.2.2 HRO.out.2.1 (by omega) (by omega)).mono ?_); rintro e w2 ⟨rfl, b⟩
      have HB2 : Sh (Below w.heap.size w w2) := ⟨below_then HBR.out HBR.out.size b⟩
      have HA2 := Sh.mk (Kd.R_below HA.out b)
      clear b e0
      cases cf : fitsB m l o with
      | true =>
        have HI := Sh.mk (HS.out.2.done (show FN m l P by unfold FN; rw [← HP.out]; exact cf))
        clear cf
        go_wp2
        refine bodyPost_ret (v := .tuple #[.slice Ao o.length co, .bool true]) (by simp [results, Try.results21, go_sem]) rfl ?_
        exact ⟨some P, by unfold ordP; rw [if_pos CB.out]; exact HI.out, .slice Ao o.length co, rfl, by show Kd.R _ _ _ _ _ _ (upI P); rw [← HP.out]; exact HA2.out, HB2.out⟩
      | false =>
        have HNF : Sh (¬ FN m l P) := ⟨by unfold FN; rw [← HP.out, cf]; simp⟩
        clear cf HA HBR HRO
        have HA := HA2
        have HBR := HB2
        have HBB := HBR
        go_wp2
        go_loopw [7] (fun f2 wr => ∃ x : Nat, 0 ≤ x ∧ x ≤ l.length ∧ f2 = .int .i64 (x : Nat) ∧ Sh (∀ y, 0 ≤ y → y < x → mayN m l o (y : Int) = false) ∧ Sh (Below w.heap.size w wr) ∧ Sh (Kd.R (Kd.int .i64) 3 wr w.heap.size (fun _ => True) (.slice Ao o.length co) o)) (fun f2 _ => l.length - (intOf f2).toNat)
        case atStart => exact ⟨0, Nat.le_refl _, by have := HS.out.2.fl; omega, rfl, ⟨fun y h1 h2 => by omega⟩, HBR, HA⟩
        case round =>
          clear HBB HA
          obtain ⟨x, hx1, hx2, rfl, HNO, HBB, HA⟩ := hrel
          have HRO := Sh.mk (Kd.R_reads' HA.out)
          by_cases hlt : x < l.length
          · have d1 : decide (x < l.length) = true := decide_eq_true hlt
            have d2 : decide ((x : Int) < (l.length : Int)) = true := decide_eq_true (by omega)
            go_wp2_with fail
            (with_reducible refine (rmay_any m A c l Ao co o (x : Int) wr HMM.out (Kd.C_below HR.out HBB.out) hc HRO.out.2.2 HRO.out.2.1 (by omega) (by have := HPL.out; omega) HOI.out ⟨by omega, by omega⟩).mono ?_); rintro e w4 ⟨rfl, b⟩
            have HB4 : Sh (Below w.heap.size w w4) := ⟨below_then HBB.out HBB.out.size b⟩
            have HA4 := Sh.mk (Kd.R_below HA.out b)
            clear b
            cases cm : mayN m l o (x : Int) with
            | false =>
              have HNO2 : Sh (∀ y, 0 ≤ y → y < x + 1 → mayN m l o (y : Int) = false) := ⟨fun y h1 h2 => by
                by_cases e : y = x
                · subst e; exact cm
                · exact HNO.out y h1 (by omega)⟩
              clear cm
              go_wp2
              go_roundw
              case rel => exact ⟨x + 1, by omega, by omega, by go_num, HNO2, HB4, HA4⟩
              case measure => simp [intOf]; omega
            | true =>
              have CM := Sh.mk cm
              clear cm HBB HA
              have HBB := HB4
              have HRO4 := Sh.mk (Kd.R_reads' HA4.out)
              go_wp2_with (first | ((with_reducible refine gate_builtin (b := .append) (xs := #[.tmp 58, .tmp 59]) rfl ?_); at_builtin; refine Kd.R_append_rows (Kd.int .i64) (w0 := w) w.heap.size rfl (.tmp 58) (.tmp 59) 24 3 (.int .i64 0) 8 rfl Try.underlying24 info3 rfl (by decide) (by omega) (.slice (some ⟨w4.heap.size, 0, none⟩) 0 0) [] o _ _ _ (fun _ => True) (fun _ => False) rfl rfl ?aO ?aR (fun _ _ h => h) (fun _ h => h.elim) ?aF ?aB ?aS ?aL ?_; (case aO => exact own_nil _ HBB.out.size); (case aR => exact Kd.C_alloc HRO4.out.2.2 _); (case aF => exact fun _ _ => trivial); (case aB => exact below_alloc HBB.out _); (case aS => exact Nat.le_trans HBB.out.size (by simp)); (case aL => have := HPL.out; simp only [List.length_nil]; omega); intro v1 w5 ho hb hg hat; rw [List.nil_append] at ho; have HO5 := Sh.mk ho; have HB5 := Sh.mk hb; clear ho hb hg hat; obtain ⟨A5, c5, e5⟩ := Kd.R_slice HO5.out; subst e5) | ((with_reducible refine gate_builtin (b := .append) (xs := #[.tmp 60, .tmp 62]) rfl ?_); at_builtin; refine Kd.R_append (Kd.int .i64) (w0 := w) w.heap.size rfl (.tmp 60) (.tmp 62) 24 3 (.int .i64 0) 8 rfl Try.underlying24 info3 rfl (by decide) (by omega) (.slice A5 o.length c5) o (x : Int) [.int .i64 (x : Int)] (fun k => True) (fun _ => False) rfl rfl ?aP (fun _ hk => hk.elim) ?aF ?aO ?aB ?aS ?aL ?_; (case aP => exact k_int_mkM _ _ _ _); (case aB => exact HB5.out); (case aF => exact fun _ _ => trivial); (case aO => exact HO5.out); (case aS => exact HB5.out.size); (case aL => have := HPL.out; omega); intro v6 w6 ho hb hg hat; have HZ := Sh.mk ho; have HZB := Sh.mk hb; clear ho hb hg hat))
              have HSI := Sh.mk (HS.out.2.push HNF.out hx1 hlt (by rw [← HP.out]; exact may_new CM.out) (fun y h1 h2 S => no_may (by rw [← HP.out]; exact HNO.out y h1 h2) S))
              go_roundg (mu l.length (P ++ [x]) 0)
              case measure =>
                have h1 := HSI.out.len
                have h2 := HSI.out.lt
                rw [HS.out.1]
                exact mu_push h1 h2 hx1
              case rel => exact ⟨P ++ [x], 0, rfl, ⟨rfl, HSI.out⟩, ⟨by rw [upI_app, show upI [x] = [(x : Int)] from rfl, ← HP.out]; exact HZ.out⟩, HZB⟩
          · obtain rfl : x = l.length := by omega
            have HNO2 : Sh (∀ y, 0 ≤ y → ∀ S, ¬ FN m l (P ++ y :: S)) := ⟨fun y h1 S => by
              by_cases e : y < l.length
              · exact no_may (by rw [← HP.out]; exact HNO.out y h1 e) S
              · exact no_out (by omega) S⟩
            have d1 : decide (l.length < l.length) = false := decide_eq_false (by omega)
            have d2 : decide ((l.length : Int) < (l.length : Int)) = false := decide_eq_false (by omega)
            rcases Nat.eq_zero_or_pos o.length with h0 | h0
            · have HP0 : Sh (P = []) := ⟨by
                have := HP.out ▸ h0
                rw [upI_len] at this
                exact List.eq_nil_of_length_eq_zero this⟩
              have e0 : ((o.length : Int) == 0) = true := by rw [h0]; rfl
              have HI := Sh.mk (by have h1 := HS.out.2; have h2 := HNF.out; have h3 := HNO2.out; rw [HP0.out] at h1 h2 h3; exact h1.none h2 h3)
              clear h0
              go_wp2
              refine bodyPost_ret (v := .tuple #[.slice none 0 0, .bool false]) (by simp [results, Try.results21, go_sem]) rfl ?_
              exact ⟨none, by unfold ordP; rw [if_pos CB.out]; exact HI.out, .slice none 0 0, rfl, Kd.R_nil _ _ _ _ _, HBB.out⟩
            · have e0 : ((o.length : Int) == 0) = false := beq_eq_false_iff_ne.2 (by omega)
              obtain ⟨k, hk⟩ : ∃ k : Nat, o.length = k + 1 := ⟨o.length - 1, by omega⟩
              obtain ⟨P', x, hPx⟩ : ∃ P' x, P = P' ++ [x] := by
                have : P ≠ [] := fun e => by rw [HP.out, upI_len, e] at h0; exact absurd h0 (by simp)
                exact ⟨P.dropLast, P.getLast this, (List.dropLast_concat_getLast this).symm⟩
              have HPX := Sh.mk hPx
              have hoP : o = upI P' ++ [(x : Int)] := by rw [HP.out, hPx, upI_app]; rfl
              have hkl : k = P'.length := by
                rw [hoP, List.length_append, upI_len, List.length_singleton] at hk
                omega
              obtain ⟨adx, rfl, hx0⟩ := Kd.at_int HRO.out.2.2 ((o.length : Int) - 1) (by omega) (by omega)
              have hrx : rd o ((o.length : Int) - 1) = (x : Int) := by
                rw [hoP]
                simp [rd, List.getD_eq_getElem?_getD]
              rw [hrx] at hx0
              obtain ⟨q, hq⟩ : ∃ q, q = (o.length : Int) - 1 := ⟨_, rfl⟩
              have q1 : IntKind.i64.wrap ((o.length : Int) - 1) = q := by rw [hq]; exact IntWalk.i64_in _ (by have := HPL.out; omega)
              have q2 : 0 ≤ q := by omega
              have q3 : q < (o.length : Int) := by omega
              have q4 : q ≤ (o.length : Int) := by omega
              rw [← hq] at hx0
              obtain ⟨t, ht⟩ : ∃ t, t = upI P' := ⟨_, rfl⟩
              have htk : t = o.take k := by rw [ht, hoP, hkl, ← upI_len P', List.take_left]
              have htl : t.length = k := by rw [ht, upI_len, hkl]
              have hcut : ∀ W : World, (Instr.slice 24 (.slice (some adx) o.length co) none (some (.int .i64 q)) none).run Try.prog W = .ok (.slice (some adx) t.length co) W := by
                obtain ⟨i3, hi3, _, hi4, _⟩ := infoO_parts info3
                have h1 := cut_to (P := Try.prog) 24 3 .i64 Try.underlying24 hi3 (some adx) o.length co q (by omega) (by omega) HRO.out.2.1
                rw [htl, show k = q.toNat by omega]
                exact h1
              have HCT : Sh (Kd.C (Kd.int .i64) wr (some adx) t.length t) := ⟨by
                have := Kd.C_take (m := k) HRO.out.2.2 (by omega)
                rwa [htk]⟩
              have htm : t.length ≤ 500 := by have := HPL.out; omega
              have HTM := Sh.mk htm
              have hxl := HS.out.2.lt x (by rw [hPx]; simp)
              have q5 : IntKind.i64.wrap ((x : Int) + 1) = ((x + 1 : Nat) : Int) := by rw [IntWalk.i64_in _ (by omega)]; omega
              have HSI := Sh.mk (by have h1 := HS.out.2; have h2 := HNF.out; have h3 := HNO2.out; rw [hPx] at h1 h2 h3; exact h1.pop h2 h3)
              have HMU : Sh (mu l.length P' (x + 1) < mu l.length (P' ++ [x]) 0) := ⟨by
                have h1 := HS.out.2
                rw [hPx] at h1
                exact mu_pop h1.len h1.lt h1.fl⟩
              have HT := Sh.mk ht
              have HB4 := HBB
              clear h0 hPx hk hoP hkl hrx htk htl ht hq htm
              go_wp2_with (first | ((with_reducible refine gate_builtin (b := .append) (xs := #[.tmp 46, .tmp 51]) rfl ?_); at_builtin; refine Kd.R_append_rows (Kd.int .i64) (w0 := w) w.heap.size rfl (.tmp 46) (.tmp 51) 24 3 (.int .i64 0) 8 rfl Try.underlying24 info3 rfl (by decide) (by omega) (.slice (some ⟨wr.heap.size, 0, none⟩) 0 0) [] t _ _ _ (fun _ => True) (fun _ => False) rfl rfl ?aO ?aR (fun _ _ h => h) (fun _ h => h.elim) ?aF ?aB ?aS ?aL ?_; (case aO => exact own_nil _ HBB.out.size); (case aR => exact Kd.C_alloc HCT.out _); (case aF => exact fun _ _ => trivial); (case aB => exact below_alloc HBB.out _); (case aS => exact Nat.le_trans HBB.out.size (by simp)); (case aL => have := HTM.out; simp only [List.length_nil]; omega); intro v1 w5 ho hb hg hat; rw [List.nil_append] at ho; have HO5 := Sh.mk ho; have HB5 := Sh.mk hb; clear ho hb hg hat; obtain ⟨A5, c5, e5⟩ := Kd.R_slice HO5.out; subst e5))
              go_roundg (mu l.length P' (x + 1))
              case measure => rw [HS.out.1, HPX.out]; exact HMU.out
              case rel => exact ⟨P', x + 1, by first | rfl | go_num, ⟨rfl, HSI.out⟩, ⟨by rw [← HT.out]; exact HO5.out⟩, HB5⟩
    · have e0 : ((fi : Int) == 0) = false := beq_eq_false_iff_ne.2 (by omega)
      have HNF := Sh.mk (HS.out.2.n0 h0)
      clear h0
      have HBB := HBR
      obtain ⟨wa, hwa⟩ : ∃ x, x = wr := ⟨_, rfl⟩
      subst hwa
      go_wp2
      go_loopw [7] (fun f2 wr => ∃ x : Nat, fi ≤ x ∧ x ≤ l.length ∧ f2 = .int .i64 (x : Nat) ∧ Sh (∀ y, fi ≤ y → y < x → mayN m l o (y : Int) = false) ∧ Sh (Below w.heap.size w wr) ∧ Sh (Kd.R (Kd.int .i64) 3 wr w.heap.size (fun _ => True) (.slice Ao o.length co) o)) (fun f2 _ => l.length - (intOf f2).toNat)
      case atStart => exact ⟨fi, Nat.le_refl _, by have := HS.out.2.fl; omega, rfl, ⟨fun y h1 h2 => by omega⟩, HBR, HA⟩
      case round =>
        clear HBB HA
        obtain ⟨x, hx1, hx2, rfl, HNO, HBB, HA⟩ := hrel
        have HRO := Sh.mk (Kd.R_reads' HA.out)
        by_cases hlt : x < l.length
        · have d1 : decide (x < l.length) = true := decide_eq_true hlt
          have d2 : decide ((x : Int) < (l.length : Int)) = true := decide_eq_true (by omega)
          go_wp2_with fail
          (with_reducible refine (rmay_any m A c l Ao co o (x : Int) wr HMM.out (Kd.C_below HR.out HBB.out) hc HRO.out.2.2 HRO.out.2.1 (by omega) (by have := HPL.out; omega) HOI.out ⟨by omega, by omega⟩).mono ?_); rintro e w4 ⟨rfl, b⟩
          have HB4 : Sh (Below w.heap.size w w4) := ⟨below_then HBB.out HBB.out.size b⟩
          have HA4 := Sh.mk (Kd.R_below HA.out b)
          clear b
          cases cm : mayN m l o (x : Int) with
          | false =>
            have HNO2 : Sh (∀ y, fi ≤ y → y < x + 1 → mayN m l o (y : Int) = false) := ⟨fun y h1 h2 => by
              by_cases e : y = x
              · subst e; exact cm
              · exact HNO.out y h1 (by omega)⟩
            clear cm
            go_wp2
            go_roundw
            case rel => exact ⟨x + 1, by omega, by omega, by go_num, HNO2, HB4, HA4⟩
            case measure => simp [intOf]; omega
          | true =>
            have CM := Sh.mk cm
            clear cm HBB HA
            have HBB := HB4
            have HRO4 := Sh.mk (Kd.R_reads' HA4.out)
            go_wp2_with (first | ((with_reducible refine gate_builtin (b := .append) (xs := #[.tmp 58, .tmp 59]) rfl ?_); at_builtin; refine Kd.R_append_rows (Kd.int .i64) (w0 := w) w.heap.size rfl (.tmp 58) (.tmp 59) 24 3 (.int .i64 0) 8 rfl Try.underlying24 info3 rfl (by decide) (by omega) (.slice (some ⟨w4.heap.size, 0, none⟩) 0 0) [] o _ _ _ (fun _ => True) (fun _ => False) rfl rfl ?aO ?aR (fun _ _ h => h) (fun _ h => h.elim) ?aF ?aB ?aS ?aL ?_; (case aO => exact own_nil _ HBB.out.size); (case aR => exact Kd.C_alloc HRO4.out.2.2 _); (case aF => exact fun _ _ => trivial); (case aB => exact below_alloc HBB.out _); (case aS => exact Nat.le_trans HBB.out.size (by simp)); (case aL => have := HPL.out; simp only [List.length_nil]; omega); intro v1 w5 ho hb hg hat; rw [List.nil_append] at ho; have HO5 := Sh.mk ho; have HB5 := Sh.mk hb; clear ho hb hg hat; obtain ⟨A5, c5, e5⟩ := Kd.R_slice HO5.out; subst e5) | ((with_reducible refine gate_builtin (b := .append) (xs := #[.tmp 60, .tmp 62]) rfl ?_); at_builtin; refine Kd.R_append (Kd.int .i64) (w0 := w) w.heap.size rfl (.tmp 60) (.tmp 62) 24 3 (.int .i64 0) 8 rfl Try.underlying24 info3 rfl (by decide) (by omega) (.slice A5 o.length c5) o (x : Int) [.int .i64 (x : Int)] (fun k => True) (fun _ => False) rfl rfl ?aP (fun _ hk => hk.elim) ?aF ?aO ?aB ?aS ?aL ?_; (case aP => exact k_int_mkM _ _ _ _); (case aB => exact HB5.out); (case aF => exact fun _ _ => trivial); (case aO => exact HO5.out); (case aS => exact HB5.out.size); (case aL => have := HPL.out; omega); intro v6 w6 ho hb hg hat; have HZ := Sh.mk ho; have HZB := Sh.mk hb; clear ho hb hg hat))
            have HSI := Sh.mk (HS.out.2.push HNF.out hx1 hlt (by rw [← HP.out]; exact may_new CM.out) (fun y h1 h2 S => no_may (by rw [← HP.out]; exact HNO.out y h1 h2) S))
            go_roundg (mu l.length (P ++ [x]) 0)
            case measure =>
              have h1 := HSI.out.len
              have h2 := HSI.out.lt
              rw [HS.out.1]
              exact mu_push h1 h2 hx1
            case rel => exact ⟨P ++ [x], 0, rfl, ⟨rfl, HSI.out⟩, ⟨by rw [upI_app, show upI [x] = [(x : Int)] from rfl, ← HP.out]; exact HZ.out⟩, HZB⟩
        · obtain rfl : x = l.length := by omega
          have HNO2 : Sh (∀ y, fi ≤ y → ∀ S, ¬ FN m l (P ++ y :: S)) := ⟨fun y h1 S => by
            by_cases e : y < l.length
            · exact no_may (by rw [← HP.out]; exact HNO.out y h1 e) S
            · exact no_out (by omega) S⟩
          have d1 : decide (l.length < l.length) = false := decide_eq_false (by omega)
          have d2 : decide ((l.length : Int) < (l.length : Int)) = false := decide_eq_false (by omega)
          rcases Nat.eq_zero_or_pos o.length with h0 | h0
          · have HP0 : Sh (P = []) := ⟨by
              have := HP.out ▸ h0
              rw [upI_len] at this
              exact List.eq_nil_of_length_eq_zero this⟩
            have e0 : ((o.length : Int) == 0) = true := by rw [h0]; rfl
            have HI := Sh.mk (by have h1 := HS.out.2; have h2 := HNF.out; have h3 := HNO2.out; rw [HP0.out] at h1 h2 h3; exact h1.none h2 h3)
            clear h0
            go_wp2
            refine bodyPost_ret (v := .tuple #[.slice none 0 0, .bool false]) (by simp [results, Try.results21, go_sem]) rfl ?_
            exact ⟨none, by unfold ordP; rw [if_pos CB.out]; exact HI.out, .slice none 0 0, rfl, Kd.R_nil _ _ _ _ _, HBB.out⟩
          · have e0 : ((o.length : Int) == 0) = false := beq_eq_false_iff_ne.2 (by omega)
            obtain ⟨k, hk⟩ : ∃ k : Nat, o.length = k + 1 := ⟨o.length - 1, by omega⟩
            obtain ⟨P', x, hPx⟩ : ∃ P' x, P = P' ++ [x] := by
              have : P ≠ [] := fun e => by rw [HP.out, upI_len, e] at h0; exact absurd h0 (by simp)
              exact ⟨P.dropLast, P.getLast this, (List.dropLast_concat_getLast this).symm⟩
            have HPX := Sh.mk hPx
            have hoP : o = upI P' ++ [(x : Int)] := by rw [HP.out, hPx, upI_app]; rfl
            have hkl : k = P'.length := by
              rw [hoP, List.length_append, upI_len, List.length_singleton] at hk
              omega
            obtain ⟨adx, rfl, hx0⟩ := Kd.at_int HRO.out.2.2 ((o.length : Int) - 1) (by omega) (by omega)
            have hrx : rd o ((o.length : Int) - 1) = (x : Int) := by
              rw [hoP]
              simp [rd, List.getD_eq_getElem?_getD]
            rw [hrx] at hx0
            obtain ⟨q, hq⟩ : ∃ q, q = (o.length : Int) - 1 := ⟨_, rfl⟩
            have q1 : IntKind.i64.wrap ((o.length : Int) - 1) = q := by rw [hq]; exact IntWalk.i64_in _ (by have := HPL.out; omega)
            have q2 : 0 ≤ q := by omega
            have q3 : q < (o.length : Int) := by omega
            have q4 : q ≤ (o.length : Int) := by omega
            rw [← hq] at hx0
            obtain ⟨t, ht⟩ : ∃ t, t = upI P' := ⟨_, rfl⟩
            have htk : t = o.take k := by rw [ht, hoP, hkl, ← upI_len P', List.take_left]
            have htl : t.length = k := by rw [ht, upI_len, hkl]
            have hcut : ∀ W : World, (Instr.slice 24 (.slice (some adx) o.length co) none (some (.int .i64 q)) none).run Try.prog W = .ok (.slice (some adx) t.length co) W := by
              obtain ⟨i3, hi3, _, hi4, _⟩ := infoO_parts info3
              have h1 := cut_to (P := Try.prog) 24 3 .i64 Try.underlying24 hi3 (some adx) o.length co q (by omega) (by omega) HRO.out.2.1
              rw [htl, show k = q.toNat by omega]
              exact h1
            have HCT : Sh (Kd.C (Kd.int .i64) wr (some adx) t.length t) := ⟨by
              have := Kd.C_take (m := k) HRO.out.2.2 (by omega)
              rwa [htk]⟩
            have htm : t.length ≤ 500 := by have := HPL.out; omega
            have HTM := Sh.mk htm
            have hxl := HS.out.2.lt x (by rw [hPx]; simp)
            have q5 : IntKind.i64.wrap ((x : Int) + 1) = ((x + 1 : Nat) : Int) := by rw [IntWalk.i64_in _ (by omega)]; omega
            have HSI := Sh.mk (by have h1 := HS.out.2; have h2 := HNF.out; have h3 := HNO2.out; rw [hPx] at h1 h2 h3; exact h1.pop h2 h3)
            have HMU : Sh (mu l.length P' (x + 1) < mu l.length (P' ++ [x]) fi) := ⟨by
              have h1 := HS.out.2
              rw [hPx] at h1
              exact mu_pop h1.len h1.lt h1.fl⟩
            have HT := Sh.mk ht
            have HB4 := HBB
            clear h0 hPx hk hoP hkl hrx htk htl ht hq htm
            go_wp2_with (first | ((with_reducible refine gate_builtin (b := .append) (xs := #[.tmp 46, .tmp 51]) rfl ?_); at_builtin; refine Kd.R_append_rows (Kd.int .i64) (w0 := w) w.heap.size rfl (.tmp 46) (.tmp 51) 24 3 (.int .i64 0) 8 rfl Try.underlying24 info3 rfl (by decide) (by omega) (.slice (some ⟨wr.heap.size, 0, none⟩) 0 0) [] t _ _ _ (fun _ => True) (fun _ => False) rfl rfl ?aO ?aR (fun _ _ h => h) (fun _ h => h.elim) ?aF ?aB ?aS ?aL ?_; (case aO => exact own_nil _ HBB.out.size); (case aR => exact Kd.C_alloc HCT.out _); (case aF => exact fun _ _ => trivial); (case aB => exact below_alloc HBB.out _); (case aS => exact Nat.le_trans HBB.out.size (by simp)); (case aL => have := HTM.out; simp only [List.length_nil]; omega); intro v1 w5 ho hb hg hat; rw [List.nil_append] at ho; have HO5 := Sh.mk ho; have HB5 := Sh.mk hb; clear ho hb hg hat; obtain ⟨A5, c5, e5⟩ := Kd.R_slice HO5.out; subst e5))
            go_roundg (mu l.length P' (x + 1))
            case measure => rw [HS.out.1, HPX.out]; exact HMU.out
            case rel => exact ⟨P', x + 1, by first | rfl | go_num, ⟨rfl, HSI.out⟩, ⟨by rw [← HT.out]; exact HO5.out⟩, HB5⟩
end Go.Proofs.Ytpddppipjlagfaa
