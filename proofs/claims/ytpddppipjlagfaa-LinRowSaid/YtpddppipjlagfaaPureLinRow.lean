/- LinRow in plain words: deeds that did not overlap have one order, as they were, or none. No row is proved here. -/
import Derived.Test.YtpddppipjlagfaaPrx40
import Derived.Test.YtpddppipjlagfaaLinPts
namespace Go.Proofs.Ytpddppipjlagfaa.Pure
set_option linter.unusedVariables false
set_option linter.unusedSimpArgs false
open Go.RowKit Go.Proofs.YtpddppipjlagfaaW.PrintWords Go.Proofs.YtpddppipjlagfaaW.PrintLast Go.Proofs.YtpddppipjlagfaaW.PrintMore Pr Go.Proofs.Ytpddppipjlagfaa.Dfs

theorem acc_fr {m : Int} {D : List De} (h : 0 ≤ m ∧ m ≤ 16384) (hl : D.length ≤ 1000) : Pr.model_Accepts.f m [] D = some (m, (accsL m [] D).1, (((accsL m [] D).2.1 : Nat) : Int), (accsL m [] D).2.2) := by
  unfold Pr.model_Accepts.f
  rw [if_pos ⟨h, rfl, hl⟩]
theorem row_l0 (a m : Int) (L : List Oq) (hL : L.length ≤ 8) : ∀ (d i k : Nat), i + d = L.length → rickyardlaw27_LinRow.l0 (k + d) a m L (dsL L i) (i : Int) = rickyardlaw27_LinRow.l0 k a m L (dsL L L.length) (L.length : Int)
  | 0, i, k, h => by
    obtain rfl : i = L.length := by omega
    rfl
  | d + 1, i, k, h => by
    have w1 : wrap64 ((i : Int) + 1) = ((i + 1 : Nat) : Int) := by rw [w64 (by omega) (by omega)]; omega
    rw [show k + (d + 1) = (k + d) + 1 by omega, rickyardlaw27_LinRow.l0, if_pos (by omega), if_pos (by omega), if_pos (by rw [dsL_len]; omega), w1]
    rw [← row_l0 a m L hL d (i + 1) k (by omega), dsL_succ]
    rfl
/-- Deeds that did not overlap. -/
def rowT (L : List Oq) : Prop := ∀ i, i < L.length → (opL L (i : Int)).f1 = 20 * (i : Int) ∧ (opL L (i : Int)).f2 = 20 * (i : Int) + 1
theorem opsF_row (m : Int) (ns : List Int) : rowT (opsF m ns []) := fun i hi => by
  unfold opsF at hi ⊢
  rw [opsU_len] at hi
  rw [opsU_at _ _ _ _ hi, oOp_nil]
  exact ⟨rfl, rfl⟩
section
variable {m : Int} {L : List Oq} {j n : Nat}
theorem row_full (hr : rowT L) (hn : L.length = n) (hj : j < n) {R : List Nat} (h : FN m (L.drop j ++ L.take j) R) : (∀ p ∈ R, p < n) ∧ R.length = n ∧ (R.map fun p => (p + j) % n) = List.range n := by
  have hlen : (L.drop j ++ L.take j).length = n := by rw [List.length_append, List.length_drop, List.length_take]; omega
  have hlt : ∀ p ∈ R, p < n := fun p hp => by have := FN_lt h p hp; omega
  have hall : ∀ p, p < n → p ∈ R := fun p hp => FN_full h p (by omega) (by
    rw [drop_at hn hj hp]
    have := (hr ((p + j) % n) (by have := Nat.mod_lt (p + j) (show 0 < n by omega); omega)).2
    omega)
  have hl : R.length = n := by
    have h1 := cover_len n R hall
    have h2 := FN_len h
    omega
  refine ⟨hlt, hl, incr_range ?_ ?_ (by rw [List.length_map, hl])⟩
  · refine List.pairwise_map.2 ?_
    have h1 := (ahF_up _ R).1 ((fits_iff (upI R)).1 h).2.2.2.1
    have h2 : R.Pairwise (· ≠ ·) := FN_nodup h
    refine List.Pairwise.imp_of_mem ?_ (h1.and h2)
    intro p q hp hq hpq
    obtain ⟨ha, hne⟩ := hpq
    have hp := hlt p hp
    have hq := hlt q hq
    rw [drop_at hn hj hp, drop_at hn hj hq] at ha
    have hp2 := Nat.mod_lt (p + j) (show 0 < n by omega)
    have hq2 := Nat.mod_lt (q + j) (show 0 < n by omega)
    have tp := hr ((p + j) % n) (by omega)
    have tq := hr ((q + j) % n) (by omega)
    have hsn : (p + j) % n ≠ (q + j) % n := fun e => hne (mod_inj hj hp hq e)
    unfold ahB endB at ha
    rw [tq.2, tp.1] at ha
    have hb : ((20 * (((q + j) % n : Nat) : Int) + 1) != -1) = true := by simp; omega
    rw [hb, Bool.true_and, decide_eq_false_iff_not] at ha
    omega
  · intro x hx
    obtain ⟨p, _, rfl⟩ := List.mem_map.1 hx
    exact Nat.mod_lt _ (by omega)
theorem row_acc (hr : rowT L) (hn : L.length = n) (hj : j < n) {R : List Nat} (h : FN m (L.drop j ++ L.take j) R) : (accsL m [] (dsL L n)).2.2 = true := by
  obtain ⟨h1, h2, h3⟩ := row_full hr hn hj h
  have h4 := FN_acc h
  have e : R.map (fun (p : Nat) => (opL (L.drop j ++ L.take j) (p : Int)).f0) = dsL L n := by
    unfold dsL
    rw [← h3, List.map_map]
    exact List.map_congr_left (fun p hp => by rw [drop_at hn hj (h1 p hp)]; rfl)
  rw [e] at h4
  exact h4
theorem row_next (hr : rowT L) (hn : L.length = n) (h8 : n ≤ 8) (hj : j < n) {R : List Nat} (h : FN m (L.drop j ++ L.take j) R) : ∀ (d i k : Nat), 1 ≤ i → i + d = n → rickyardlaw27_LinRow.l1 (k + d + 1) (L.drop j ++ L.take j) (upI R) (i : Int) = some true := by
  obtain ⟨h1, h2, h3⟩ := row_full hr hn hj h
  have hlen : (L.drop j ++ L.take j).length = n := by rw [List.length_append, List.length_drop, List.length_take]; omega
  have hul : (upI R).length = n := by rw [upI_len, h2]
  have hrd : ∀ i, i < n → ∃ p : Nat, rd (upI R) (i : Int) = (p : Int) ∧ p < n ∧ (p + j) % n = i := fun i hi => by
    have hi' : i < R.length := by omega
    refine ⟨R[i], ?_, h1 _ (List.getElem_mem _), ?_⟩
    · unfold rd upI
      rw [Int.toNat_natCast, List.getD_eq_getElem?_getD, List.getElem?_map, List.getElem?_eq_getElem hi']
      rfl
    · have := congrArg (fun (s : List Nat) => s[i]?) h3
      simp only [List.getElem?_map, List.getElem?_eq_getElem hi', Option.map_some, List.getElem?_range hi] at this
      exact Option.some.inj this
  intro d
  induction d with
  | zero =>
    intro i k hi1 hi
    rw [rickyardlaw27_LinRow.l1, if_neg (by rw [hul]; omega)]
    rfl
  | succ d ih =>
    intro i k hi1 hi
    obtain ⟨p, hp, hp1, hp2⟩ := hrd i (by omega)
    obtain ⟨q, hq, hq1, hq2⟩ := hrd (i - 1) (by omega)
    have tp := hr i (by omega)
    have tq := hr (i - 1) (by omega)
    have ep : (rd_T40 (L.drop j ++ L.take j) (p : Int)).f1 = 20 * (i : Int) := by
      show (opL (L.drop j ++ L.take j) (p : Int)).f1 = _
      rw [drop_at hn hj hp1, hp2]
      exact tp.1
    have eq : (rd_T40 (L.drop j ++ L.take j) (q : Int)).f2 = 20 * ((i - 1 : Nat) : Int) + 1 := by
      show (opL (L.drop j ++ L.take j) (q : Int)).f2 = _
      rw [drop_at hn hj hq1, hq2]
      exact tq.2
    have o1 : (i : Int) + 1 = ((i + 1 : Nat) : Int) := by omega
    have o2 : (i : Int) - 1 = ((i - 1 : Nat) : Int) := by omega
    have b1 : i + 1 < 9223372036854775807 := by omega
    have b2 : i - 1 < 9223372036854775807 := by omega
    have c1 : (i : Int) < (n : Int) := by omega
    have c2 : (0 : Int) ≤ (i : Int) := by omega
    have c3 : (0 : Int) ≤ (p : Int) := by omega
    have c4 : (p : Int) < (n : Int) := by omega
    have c5 : (0 : Int) ≤ ((i - 1 : Nat) : Int) := by omega
    have c6 : ((i - 1 : Nat) : Int) < (n : Int) := by omega
    have c7 : (0 : Int) ≤ (q : Int) := by omega
    have c8 : (q : Int) < (n : Int) := by omega
    have c9 : ¬ (20 * (i : Int) ≤ 20 * ((i - 1 : Nat) : Int) + 1) := by omega
    have e1 : k + (d + 1) + 1 = (k + d + 1) + 1 := by omega
    have h1 : 1 ≤ i + 1 := by omega
    have h2 : i + 1 + d = n := by omega
    have w1 := w64n o1 b1
    have w2 := w64n o2 b2
    rw [e1, rickyardlaw27_LinRow.l1, hul, hlen, if_pos c1, if_pos c2, hp, if_pos c3, if_pos c4, w2, if_pos c5, if_pos c6, hq, if_pos c7, if_pos c8, ep, eq, if_neg c9, w1]
    exact ih (i + 1) k h1 h2
end
theorem LinRow : rickyardlaw27_LinRow.Pure := by
  intro a0 l1 a2 h0 h1 h2 h3 h4
  obtain ⟨m, hm, hm0, hm1⟩ := m_of h0
  have u3 := u8_of h4
  refine ⟨60, ?_⟩
  unfold rickyardlaw27_LinRow.f
  rw [hm, ops_f m l1 [] ⟨hm0, by omega⟩ (by omega) h3 (by simp) 60, Option.bind_some]
  have hT := opsF_inT m l1 [] (by simp)
  have hr := opsF_row m l1
  generalize opsF m l1 [] = L at hT hr ⊢
  have h8 := hT.len
  have e1 := row_l0 a2 m L h8 L.length 0 (60 - L.length) (by omega)
  rw [show 60 - L.length + L.length = 60 by omega] at e1
  rw [show dsL L 0 = [] from rfl, show ((0 : Nat) : Int) = 0 from rfl] at e1
  refine Eq.trans e1 ?_
  clear e1
  obtain ⟨k1, hk1⟩ : ∃ k1, 60 - L.length = k1 + 30 := ⟨30 - L.length, by omega⟩
  rw [hk1, rickyardlaw27_LinRow.l0, if_neg (by omega), show Pr.model_New.f m = some (m, []) from rfl, Option.bind_some, acc_fr ⟨hm0, by omega⟩ (by rw [dsL_len]; omega), Option.bind_some, turn_f L a2 (by omega) ⟨u3.1, u3.2⟩, Option.bind_some]
  rcases Nat.eq_zero_or_pos L.length with hz | hz
  · obtain rfl := List.eq_nil_of_length_eq_zero hz
    have hF : FN m ([] : List Oq) [] := FN_mk rfl (by simp) (by simp) (fun i hi _ => absurd hi (by simp)) rfl rfl
    obtain ⟨R, h1, h2, _⟩ := ordF_some (m := m) (l := ([] : List Oq)) rfl (by simp) hF
    have hR : R = [] := List.eq_nil_of_length_eq_zero (Nat.le_zero.1 (FN_len h2))
    subst hR
    rw [show turnF ([] : List Oq) a2 = [] from rfl, order_some hm0 (by omega) (by simp) h1, Option.bind_some]
    rfl
  · obtain ⟨j, hj, ej, et⟩ := turnF_pos (l := L) rfl hz a2
    have hlen : (L.drop j ++ L.take j).length = L.length := by rw [List.length_append, List.length_drop, List.length_take]; omega
    rw [et]
    cases ok : (accsL m [] (dsL L L.length)).2.2 with
    | true =>
      have hF := pts_FN hT rfl hj ok
      obtain ⟨R, hR1, hR2, hR3⟩ := ordF_some (dropTake_may hT.may j) (by omega) hF
      have hRl := (row_full hr rfl hj hR2).2.1
      rw [order_some hm0 (by omega) (by omega) hR1, Option.bind_some, if_neg (by simp), if_pos (by rw [upI_len, hRl]), rickyardlaw27_LinRow.j1, if_neg (by simp)]
      have := row_next hr rfl h8 hj hR2 (L.length - 1) 1 (k1 + 28 - L.length) (Nat.le_refl _) (by omega)
      rw [show k1 + 28 - L.length + (L.length - 1) + 1 = k1 + 28 by omega] at this
      exact this
    | false =>
      have hN : ordF m (L.drop j ++ L.take j) = none := ordF_none (fun P hP => by
        have := row_acc hr rfl hj hP
        rw [ok] at this
        cases this)
      rw [order_none hm0 (by omega) (by omega) hN, Option.bind_some, if_neg (by simp), if_neg (by simp; omega), rickyardlaw27_LinRow.j1, if_neg (by simp), rickyardlaw27_LinRow.l1, if_neg (by simp)]
      rfl
end Go.Proofs.Ytpddppipjlagfaa.Pure
