/- lin.Fits: its contract. No statement is proved here. -/
import Derived.Test.YtpddppipjlagfaaLinPure
import Derived.Test.YtpddppipjlagfaaPrx26
import Derived.IntWalk
import Derived.Outline
import Derived.StillTailTactics
namespace Go.Proofs.Ytpddppipjlagfaa
set_option linter.unusedVariables false
set_option linter.unusedSimpArgs false
open Go.RowKit Go.Proofs.YtpddppipjlagfaaW.PrintWords Go.Proofs.YtpddppipjlagfaaW.PrintLast Go.Proofs.YtpddppipjlagfaaW.PrintMore Pr Go.Proofs.Ytpddppipjlagfaa.Pure

def ahF (l : List Oq) : List Int → Bool
  | [] => true
  | x :: o => (o.all fun y => !ahB (opL l y) (opL l x)) && ahF l o
def deedsF (l : List Oq) (o : List Int) : List De := o.map fun x => (opL l x).f0
def fitsB (m : Int) (l : List Oq) (o : List Int) : Bool := mayB l && (placesB l o && (fullB l o && (ahF l o && (accsL m [] (deedsF l o)).2.2)))
theorem infoO_parts {P : Program} {e : TypeId} {z : Value} {s b : Nat} (h : (P.info? e).map (fun i => (i.zero, i.size, i.bytes)) = some (some z, s, b)) : ∃ i, P.info? e = some i ∧ i.zero = some z ∧ i.size = s ∧ i.bytes = b := by
  cases hi : P.info? e with
  | none => rw [hi] at h; cases h
  | some i =>
    rw [hi] at h
    have := Option.some.inj h
    simp only [Prod.mk.injEq] at this
    exact ⟨i, rfl, this.1, this.2.1, this.2.2⟩
theorem places_in {l : List Oq} {o : List Int} (h : placesB l o = true) (x : Int) (hx : x ∈ o) : 0 ≤ x ∧ x < l.length := by
  unfold placesB at h
  have h1 := (Bool.and_eq_true _ _ ▸ h).1
  have h2 := List.all_eq_true.1 h1 x hx
  unfold inB at h2
  simpa using h2
theorem nodup_len (n : Nat) : ∀ o : List Int, o.Nodup → (∀ x ∈ o, 0 ≤ x ∧ x < (n : Int)) → o.length ≤ n := by
  induction n with
  | zero =>
    intro o _ h
    cases o with
    | nil => exact Nat.le_refl _
    | cons x o => have := h x (by simp); omega
  | succ n ih =>
    intro o hn h
    have h1 := ih (o.filter fun x => x != (n : Int)) (hn.filter _) (fun x hx => by
      obtain ⟨h2, h3⟩ := List.mem_filter.1 hx
      have := h x h2
      have : x ≠ (n : Int) := by simpa using h3
      omega)
    have h2 : o.length ≤ (o.filter fun x => x != (n : Int)).length + 1 := by
      clear h ih h1
      induction o with
      | nil => simp
      | cons x o ih =>
        obtain ⟨h3, h4⟩ := List.nodup_cons.1 hn
        by_cases c : x = (n : Int)
        · subst c
          rw [List.filter_cons_of_neg (by simp), List.filter_eq_self.2 (fun y hy => by simp; intro e; exact h3 (e ▸ hy))]
          simp
        · rw [List.filter_cons_of_pos (by simpa using c)]
          have := ih h4
          simp only [List.length_cons]
          omega
    omega
theorem places_len {l : List Oq} {o : List Int} (h : placesB l o = true) : o.length ≤ l.length := by
  have h0 := places_in h
  unfold placesB at h
  exact nodup_len l.length o (by have := (Bool.and_eq_true _ _ ▸ h).2; simpa using this) h0
theorem rd_dropI (o : List Int) (k : Nat) (h : k < o.length) : o.drop k = rd o (k : Int) :: o.drop (k + 1) := by
  rw [List.drop_eq_getElem_cons h]
  simp [rd, List.getD_eq_getElem?_getD, List.getElem?_eq_getElem h]
theorem rd_memI (o : List Int) (k : Nat) (h : k < o.length) : rd o (k : Int) ∈ o := by
  simp [rd, List.getD_eq_getElem?_getD, List.getElem?_eq_getElem h]
theorem take_sucI (o : List Int) (k : Nat) (h : k < o.length) : o.take (k + 1) = o.take k ++ [rd o (k : Int)] := by
  rw [List.take_succ_eq_append_getElem h]
  simp [rd, List.getD_eq_getElem?_getD, List.getElem?_eq_getElem h]
theorem all_drop {p : Int → Bool} (t : List Int) (i : Nat) (h : i < t.length) : (t.drop i).all p = (p (rd t (i : Int)) && (t.drop (i + 1)).all p) := by
  rw [rd_dropI t i h, List.all_cons]

set_option maxRecDepth 100000 in
set_option maxHeartbeats 8000000 in
theorem fits_any (m : Int) (A : Option Addr) (c : Nat) (l : List Oq) (B : Option Addr) (cB : Nat) (o : List Int) (w : World) (hm : mOk m) (hr : Kd.C k40 w A l.length l) (hc : l.length ≤ c) (ho : Kd.C (Kd.int .i64) w B o.length o) (hcB : o.length ≤ cB) (hl : l.length ≤ 500) (hol : o.length ≤ 1000) :
    Calls Try.prog 14 #[.int .i64 m, .slice A l.length c, .slice B o.length cB] w fun e w' => e = .returned (.bool (fitsB m l o)) ∧ Below w.heap.size w w' := by
  have hu := Try.underlying40
  have hu2 := Try.underlying43
  have hu3 := Try.underlying38
  have HR := Sh.mk hr
  have HO := Sh.mk ho
  have HMM := Sh.mk hm
  have HM := Sh.mk (lin_May.calls A c l (mayB l) w hr hc (mayl_is l (by omega)))
  obtain ⟨kp, hkp⟩ := (places_ev l o (by omega) (by omega)).rounds
  obtain ⟨kf, hkf⟩ := (full_ev l o (by omega) (by omega)).rounds
  have HP : ∀ W, Below w.heap.size w W → Sh (Calls Try.prog 27 #[.slice A l.length c, .slice B o.length cB] W fun e w' => e = .returned (.bool (placesB l o)) ∧ Below W.heap.size W w') := fun W hW => ⟨lin_places.calls kp A c l B cB o _ W (Kd.C_below hr hW) hc (Kd.C_below ho hW) hcB hkp⟩
  have HF : ∀ W, Below w.heap.size w W → Sh (Calls Try.prog 25 #[.slice A l.length c, .slice B o.length cB] W fun e w' => e = .returned (.bool (fullB l o)) ∧ Below W.heap.size W w') := fun W hW => ⟨lin_full.calls kf A c l B cB o _ W (Kd.C_below hr hW) hc (Kd.C_below ho hW) hcB hkf⟩
  clear hr ho hm hkp hkf
  go_enter Try.func14, Try.ntmps14
  go_wp2_with fail
  (with_reducible refine HM.out.mono ?_); rintro e w1 ⟨rfl, b⟩
  have B1 := Sh.mk b
  clear b HM
  cases c1 : mayB l with
  | false =>
    have HV : Sh (fitsB m l o = false) := ⟨by unfold fitsB; rw [c1]; rfl⟩
    clear c1
    go_wp2
    go_ret
    exact ⟨by rw [HV.out]; rfl, B1.out⟩
  | true =>
  have C1 := Sh.mk c1
  clear c1
  go_wp2_with fail
  (with_reducible refine (HP _ B1.out).out.mono ?_); rintro e w2 ⟨rfl, b⟩
  have B2 : Sh (Below w.heap.size w w2) := ⟨below_then B1.out B1.out.size b⟩
  clear b
  cases c2 : placesB l o with
  | false =>
    have HV : Sh (fitsB m l o = false) := ⟨by unfold fitsB; rw [C1.out, c2]; rfl⟩
    clear c2
    go_wp2
    go_ret
    exact ⟨by rw [HV.out]; rfl, B2.out⟩
  | true =>
  have C2 := Sh.mk c2
  clear c2
  go_wp2_with fail
  (with_reducible refine (HF _ B2.out).out.mono ?_); rintro e w3 ⟨rfl, b⟩
  have B3 : Sh (Below w.heap.size w w3) := ⟨below_then B2.out B2.out.size b⟩
  clear b B1 B2 HP HF
  cases c3 : fullB l o with
  | false =>
    have HV : Sh (fitsB m l o = false) := ⟨by unfold fitsB; rw [C1.out, C2.out, c3]; rfl⟩
    clear c3
    go_wp2
    go_ret
    exact ⟨by rw [HV.out]; rfl, B3.out⟩
  | true =>
  have HV : Sh (fitsB m l o = (ahF l o && (accsL m [] (deedsF l o)).2.2)) := ⟨by unfold fitsB; rw [C1.out, C2.out, c3]; rfl⟩
  clear c3
  go_wp2
  go_loopw [7, 32] (fun v i wr => ∃ k, k ≤ o.length ∧ i = .int .i64 (k : Nat) ∧ Sh (ahF l o = ahF l (o.drop k)) ∧ Sh (Kd.R k38 38 wr w.heap.size (fun _ => True) v (deedsF l (o.take k))) ∧ Sh (Below w.heap.size w wr)) (fun v i _ => o.length - (intOf i).toNat)
  case atStart => exact ⟨0, Nat.zero_le _, rfl, ⟨by simp⟩, ⟨by simpa [deedsF] using Kd.R_nil _ _ _ _ _⟩, B3⟩
  case round =>
    obtain ⟨k, hk, rfl, HK, HA, HB⟩ := hrel
    by_cases hlt : k < o.length
    · have hCo := Kd.C_below HO.out HB.out
      obtain ⟨adx, rfl, hx0⟩ := Kd.at_int hCo (k : Int) (by omega) (by omega)
      rw [Int.toNat_natCast] at hx0
      obtain ⟨x, hx⟩ : ∃ x, x = rd o (k : Int) := ⟨_, rfl⟩
      have hxi := places_in C2.out x (hx ▸ rd_memI o k hlt)
      have hk1 := HK.out
      rw [rd_dropI o k hlt, ← hx, ahF] at hk1
      have HTS : Sh (deedsF l (o.take (k + 1)) = deedsF l (o.take k) ++ [(opL l x).f0]) := ⟨by rw [take_sucI o k hlt, ← hx]; simp [deedsF]⟩
      rw [← hx] at hx0
      obtain ⟨t, ht⟩ : ∃ t, t = o.drop (k + 1) := ⟨_, rfl⟩
      have htm : Sh (∀ y ∈ t, 0 ≤ y ∧ y < (l.length : Int)) := ⟨fun y hy => places_in C2.out y (List.mem_of_mem_drop (ht ▸ hy))⟩
      have htl : t.length = o.length - (k + 1) := by rw [ht]; simp
      obtain ⟨q, hq⟩ : ∃ q, q = (k : Int) + 1 := ⟨_, rfl⟩
      have q1 : IntKind.i64.wrap ((k : Int) + 1) = q := by rw [hq]; exact IntWalk.i64_in _ (by omega)
      obtain ⟨B', c', hcut, hCt, hct⟩ : ∃ B' c', (∀ W : World, (Instr.slice 24 (.slice (some adx) o.length cB) (some (.int .i64 q)) none none).run Try.prog W = .ok (.slice B' t.length c') W) ∧ Kd.C (Kd.int .i64) wr B' t.length t ∧ t.length ≤ c' := by
        obtain ⟨i3, hi3, _, hi4, _⟩ := infoO_parts info3
        have h1 := cut_from (P := Try.prog) 24 3 .i64 Try.underlying24 hi3 1 hi4 (some adx) o.length cB q (by omega) (by omega)
        have h2 := Kd.C_drop (m := k + 1) hCo (by omega) hcB
        have e : q.toNat = k + 1 := by omega
        rw [e, ← htl] at h1
        rw [← ht] at h2
        exact ⟨_, _, h1, h2, by omega⟩
      rw [← ht] at hk1
      have HT := Sh.mk hCt
      have HK1 := Sh.mk hk1
      have HTT := Sh.mk ht
      have HCT := Sh.mk hct
      have HQ := Sh.mk hq
      have htl2 : t.length ≤ 1000 := by omega
      clear hx ht hCo hCt hk1 hq htl hct
      obtain ⟨wa, hwa⟩ : ∃ x, x = wr := ⟨_, rfl⟩
      subst hwa
      go_wp2
      go_loopw [42] (fun j w2 => ∃ i, i ≤ t.length ∧ j = .int .i64 (i : Nat) ∧ Sh ((t.all fun y => !ahB (opL l y) (opL l x)) = ((t.drop i).all fun y => !ahB (opL l y) (opL l x))) ∧ Sh (Below w.heap.size w w2) ∧ Sh (Below wa.heap.size wa w2)) (fun j _ => t.length - (intOf j).toNat)
      case atStart => exact ⟨0, Nat.zero_le _, rfl, ⟨by simp⟩, HB, ⟨Below.refl _ _⟩⟩
      case round =>
        obtain ⟨i, hi, rfl, HI, HB2, HW2⟩ := hrel
        by_cases hlt2 : i < t.length
        · obtain ⟨ad2, rfl, hy0⟩ := Kd.at_int (Kd.C_below HT.out HW2.out) (i : Int) (by omega) (by omega)
          rw [Int.toNat_natCast] at hy0
          obtain ⟨y, hy⟩ : ∃ y, y = rd t (i : Int) := ⟨_, rfl⟩
          have hyi := htm.out y (hy ▸ rd_memI t i hlt2)
          have hi1 := HI.out
          rw [all_drop t i hlt2, ← hy] at hi1
          rw [← hy] at hy0
          have HI1 := Sh.mk hi1
          obtain ⟨ad, rfl, a0, a1, a2, a3, a4, a5⟩ := at_T40 (Kd.C_below HR.out HB2.out) y hyi.1 hyi.2
          obtain ⟨ad', ea, b0, b1, b2, b3, b4, b5⟩ := at_T40 (Kd.C_below HR.out HB2.out) x hxi.1 hxi.2
          cases ea
          obtain ⟨Y, hY⟩ : ∃ Y, Y = opL l y := ⟨_, rfl⟩
          obtain ⟨X, hX⟩ : ∃ X, X = opL l x := ⟨_, rfl⟩
          have HC := Sh.mk (And.intro hY hX)
          have eY : rd_T40 l y = Y := hY.symm
          have eX : rd_T40 l x = X := hX.symm
          rw [eY] at a0 a1 a2 a3 a4 a5
          rw [eX] at b0 b1 b2 b3 b4 b5
          obtain ⟨hy1, hy2⟩ := hyi
          obtain ⟨hx1, hx2⟩ := hxi
          have HAH : ∀ W, Sh (Calls Try.prog 28 #[.agg #[.int .i64 Y.f0.f0, .int .i64 Y.f0.f1, .int .i64 Y.f0.f2, .int .i64 Y.f0.f3, .int .i64 Y.f1, .int .i64 Y.f2], .agg #[.int .i64 X.f0.f0, .int .i64 X.f0.f1, .int .i64 X.f0.f2, .int .i64 X.f0.f3, .int .i64 X.f1, .int .i64 X.f2]] W fun e w' => e = .returned (.bool (ahB Y X)) ∧ Below W.heap.size W w') := fun W => ⟨lin_ahead.calls _ _ _ _ _ _ _ _ _ _ _ _ _ W (ahead_is Y X)⟩
          clear hY hX hy eY eX hi1
          have HE : ∀ W, Below wr.heap.size wr W → Sh ((W.cell? (ad.add (y.toNat * 6)) = some (.int .i64 Y.f0.f0) ∧ W.cell? ⟨(ad.add (y.toNat * 6)).block, (ad.add (y.toNat * 6)).off + 1, none⟩ = some (.int .i64 Y.f0.f1) ∧ W.cell? ⟨(ad.add (y.toNat * 6)).block, (ad.add (y.toNat * 6)).off + 2, none⟩ = some (.int .i64 Y.f0.f2) ∧ W.cell? ⟨(ad.add (y.toNat * 6)).block, (ad.add (y.toNat * 6)).off + 3, none⟩ = some (.int .i64 Y.f0.f3) ∧ W.cell? ⟨(ad.add (y.toNat * 6)).block, (ad.add (y.toNat * 6)).off + 4, none⟩ = some (.int .i64 Y.f1) ∧ W.cell? ⟨(ad.add (y.toNat * 6)).block, (ad.add (y.toNat * 6)).off + 5, none⟩ = some (.int .i64 Y.f2)) ∧ W.cell? (ad.add (x.toNat * 6)) = some (.int .i64 X.f0.f0) ∧ W.cell? ⟨(ad.add (x.toNat * 6)).block, (ad.add (x.toNat * 6)).off + 1, none⟩ = some (.int .i64 X.f0.f1) ∧ W.cell? ⟨(ad.add (x.toNat * 6)).block, (ad.add (x.toNat * 6)).off + 2, none⟩ = some (.int .i64 X.f0.f2) ∧ W.cell? ⟨(ad.add (x.toNat * 6)).block, (ad.add (x.toNat * 6)).off + 3, none⟩ = some (.int .i64 X.f0.f3) ∧ W.cell? ⟨(ad.add (x.toNat * 6)).block, (ad.add (x.toNat * 6)).off + 4, none⟩ = some (.int .i64 X.f1) ∧ W.cell? ⟨(ad.add (x.toNat * 6)).block, (ad.add (x.toNat * 6)).off + 5, none⟩ = some (.int .i64 X.f2)) := fun W hW => ⟨⟨(hW.cell (World.block_lt_of_cell? _ _ a0)).trans a0, (hW.cell (World.block_lt_of_cell? _ _ a1)).trans a1, (hW.cell (World.block_lt_of_cell? _ _ a2)).trans a2, (hW.cell (World.block_lt_of_cell? _ _ a3)).trans a3, (hW.cell (World.block_lt_of_cell? _ _ a4)).trans a4, (hW.cell (World.block_lt_of_cell? _ _ a5)).trans a5⟩, (hW.cell (World.block_lt_of_cell? _ _ b0)).trans b0, (hW.cell (World.block_lt_of_cell? _ _ b1)).trans b1, (hW.cell (World.block_lt_of_cell? _ _ b2)).trans b2, (hW.cell (World.block_lt_of_cell? _ _ b3)).trans b3, (hW.cell (World.block_lt_of_cell? _ _ b4)).trans b4, (hW.cell (World.block_lt_of_cell? _ _ b5)).trans b5⟩
          clear a0 a1 a2 a3 a4 a5 b0 b1 b2 b3 b4 b5
          have A0 := (HE wr (Below.refl _ _)).out
          go_wp2
          go_region_held3 (fun W => (W.cell? (ad.add (y.toNat * 6)) = some (.int .i64 Y.f0.f0) ∧ W.cell? ⟨(ad.add (y.toNat * 6)).block, (ad.add (y.toNat * 6)).off + 1, none⟩ = some (.int .i64 Y.f0.f1) ∧ W.cell? ⟨(ad.add (y.toNat * 6)).block, (ad.add (y.toNat * 6)).off + 2, none⟩ = some (.int .i64 Y.f0.f2) ∧ W.cell? ⟨(ad.add (y.toNat * 6)).block, (ad.add (y.toNat * 6)).off + 3, none⟩ = some (.int .i64 Y.f0.f3) ∧ W.cell? ⟨(ad.add (y.toNat * 6)).block, (ad.add (y.toNat * 6)).off + 4, none⟩ = some (.int .i64 Y.f1) ∧ W.cell? ⟨(ad.add (y.toNat * 6)).block, (ad.add (y.toNat * 6)).off + 5, none⟩ = some (.int .i64 Y.f2)) ∧ W.cell? (ad.add (x.toNat * 6)) = some (.int .i64 X.f0.f0) ∧ W.cell? ⟨(ad.add (x.toNat * 6)).block, (ad.add (x.toNat * 6)).off + 1, none⟩ = some (.int .i64 X.f0.f1) ∧ W.cell? ⟨(ad.add (x.toNat * 6)).block, (ad.add (x.toNat * 6)).off + 2, none⟩ = some (.int .i64 X.f0.f2) ∧ W.cell? ⟨(ad.add (x.toNat * 6)).block, (ad.add (x.toNat * 6)).off + 3, none⟩ = some (.int .i64 X.f0.f3) ∧ W.cell? ⟨(ad.add (x.toNat * 6)).block, (ad.add (x.toNat * 6)).off + 4, none⟩ = some (.int .i64 X.f1) ∧ W.cell? ⟨(ad.add (x.toNat * 6)).block, (ad.add (x.toNat * 6)).off + 5, none⟩ = some (.int .i64 X.f2)) (first | exact (HE _ (Below.refl _ _)).out | exact (HE _ (Below.refl _ _).drew).out | exact (HE _ B4.out).out | exact (HE _ B4.out.drew).out) ((go_at_call 28; (with_reducible refine (HAH _).out.mono ?_); rintro e w4 ⟨rfl, b⟩; have B4 : Sh (Below wr.heap.size wr w4) := ⟨by first | exact b | exact below_step (Below.refl _ _).drew b⟩; clear b))
          have HB4 : Sh (Below w.heap.size w w4) := ⟨below_then HB2.out HB2.out.size B4.out⟩
          have HW4 : Sh (Below wa.heap.size wa w4) := ⟨below_then HW2.out HW2.out.size B4.out⟩
          clear HE A0
          cases cA : ahB Y X with
          | true =>
            have hv := HV.out
            rw [HC.out.1, HC.out.2] at cA
            rw [HK1.out, HI1.out, cA] at hv
            have HV2 : Sh (fitsB m l o = false) := ⟨by simpa using hv⟩
            clear hv cA
            go_wp2
            go_ret
            exact ⟨by rw [HV2.out]; rfl, HB4.out⟩
          | false =>
            have hi3 := HI1.out
            rw [HC.out.1, HC.out.2] at cA
            rw [cA, Bool.not_false, Bool.true_and] at hi3
            have HI3 := Sh.mk hi3
            clear hi3 cA
            go_wp2
            go_roundw
            case rel => exact ⟨i + 1, by omega, by go_num, ⟨HI3.out⟩, HB4, HW4⟩
            case measure => simp [intOf]; omega
        · have hi0 := HI.out
          rw [List.drop_of_length_le (by omega), List.all_nil] at hi0
          have hk2 := HK1.out
          rw [hi0, Bool.true_and, HTT.out] at hk2
          have HK2 := Sh.mk hk2
          obtain ⟨acc, hacc⟩ : ∃ acc, acc = deedsF l (o.take k) := ⟨_, rfl⟩
          have hal : acc.length ≤ 1000 := by rw [hacc]; unfold deedsF; simp; omega
          rw [← hacc] at HA HTS
          obtain ⟨X, hX⟩ : ∃ X, X = opL l x := ⟨_, rfl⟩
          rw [← hX] at HTS
          have HA2 := Sh.mk (Kd.R_below HA.out HW2.out)
          obtain ⟨Ac, cc, eac⟩ := Kd.R_slice HA2.out
          subst eac
          obtain ⟨hx1, hx2⟩ := hxi
          obtain ⟨ad, rfl, a0, a1, a2, a3, a4, a5⟩ := at_T40 (Kd.C_below HR.out HB2.out) x hx1 hx2
          have eX : rd_T40 l x = X := hX.symm
          rw [eX] at a0 a1 a2 a3 a4 a5
          clear hi0 hk2 hacc hX eX
          go_wp2_with (first | ((with_reducible refine gate_builtin (b := .append) (xs := #[.tmp 56, .tmp 62]) rfl ?_); at_builtin; refine Kd.R_append k38 (w0 := w) w.heap.size rfl (.tmp 56) (.tmp 62) 35 38 (.agg #[(.int .i64 0), (.int .i64 0), (.int .i64 0), (.int .i64 0)]) 32 rfl Try.underlying35 info38 rfl (by decide) (by omega) (.slice Ac acc.length cc) acc X.f0 [.int .i64 X.f0.f0, .int .i64 X.f0.f1, .int .i64 X.f0.f2, .int .i64 X.f0.f3] (fun k => True) (fun _ => False) rfl rfl ?aP (fun _ hk => hk.elim) ?aF ?aO ?aB ?aS ?aL ?_; (case aP => exact k38_mkM _ _ _ X.f0); (case aB => exact HB2.out); (case aF => exact fun _ _ => trivial); (case aO => exact HA2.out); (case aS => exact HB2.out.size); (case aL => omega); intro v1 w1 ho hb hg hat; have HZ := Sh.mk ho; have HZB := Sh.mk hb; clear ho hb hg hat))
          go_roundw
          case rel => exact ⟨k + 1, by omega, by rw [HQ.out]; go_num, HK2, ⟨by rw [HTS.out]; exact HZ.out⟩, HZB⟩
          case measure => have := HQ.out; simp [intOf]; omega
    · obtain rfl : k = o.length := by omega
      have hk0 := HK.out
      rw [List.drop_length, ahF] at hk0
      have hv := HV.out
      rw [hk0, Bool.true_and] at hv
      have ha := HA.out
      rw [List.take_length] at ha
      obtain ⟨D, hD⟩ : ∃ D, D = deedsF l o := ⟨_, rfl⟩
      have hdl : D.length ≤ 1000 := by rw [hD]; unfold deedsF; simp; omega
      rw [← hD] at ha hv
      have HV2 := Sh.mk hv
      obtain ⟨Ac, cc, eac⟩ := Kd.R_slice ha
      subst eac
      have HAR := Sh.mk (Kd.R_reads' ha)
      clear ha hv hk0 hD HA
      go_wp2_with fail
      (with_reducible refine (new_any m _).mono ?_); rintro e w5 ⟨rfl, b⟩
      have B5 := Sh.mk b
      have HB5 : Sh (Below w.heap.size w w5) := ⟨below_then HB.out HB.out.size b⟩
      clear b
      go_wp2_with fail
      (with_reducible refine (accepts_anyR (l := []) HMM.out (show rtL m [] from by simp [rtL]) (by simpa using hdl) (Rd.nil _) (Kd.C_below HAR.out.2.2 B5.out) HAR.out.2.1).mono ?_); rintro e w6 ⟨u, rfl, hu, b⟩
      obtain ⟨A6, c6, rfl, -, -⟩ := hu
      have HB6 : Sh (Below w.heap.size w w6) := ⟨below_then HB5.out HB5.out.size b⟩
      clear b
      go_wp2
      go_ret
      exact ⟨by rw [HV2.out]; rfl, below_alloc HB6.out _⟩
end Go.Proofs.Ytpddppipjlagfaa
