/- LinPoints in plain words: deeds that a model accepts one by one, each within its time, have an order; it is not behind theirs. No row is proved here. -/
import Derived.Test.YtpddppipjlagfaaPrx39
import Derived.Test.YtpddppipjlagfaaLinPts
namespace Go.Proofs.Ytpddppipjlagfaa.Pure
set_option linter.unusedVariables false
set_option linter.unusedSimpArgs false
open Go.RowKit Go.Proofs.YtpddppipjlagfaaW.PrintWords Go.Proofs.YtpddppipjlagfaaW.PrintLast Go.Proofs.YtpddppipjlagfaaW.PrintMore Pr Go.Proofs.Ytpddppipjlagfaa.Dfs

theorem acc_f {m : Int} {D : List De} (h : 0 ≤ m ∧ m ≤ 16384) (hl : D.length ≤ 1000) : Pr.model_Accepts.f m [] D = some (m, (accsL m [] D).1, (((accsL m [] D).2.1 : Nat) : Int), (accsL m [] D).2.2) := by
  unfold Pr.model_Accepts.f
  rw [if_pos ⟨h, rfl, hl⟩]
theorem fits_fp {m : Int} {l : List Oq} {o : List Int} (h : 0 ≤ m ∧ m ≤ 16384) (h1 : l.length ≤ 500) (h2 : o.length ≤ 1000) : Pr.lin_Fits.f m l o = some (fitsB m l o) := by
  unfold Pr.lin_Fits.f
  rw [if_pos ⟨h, h1, h2⟩]
theorem pts_l0 (a m : Int) (L : List Oq) (hL : L.length ≤ 8) : ∀ (d i k : Nat), i + d = L.length → rickyardlaw27_LinPoints.l0 (k + d) a m L (dsL L i) (i : Int) = rickyardlaw27_LinPoints.l0 k a m L (dsL L L.length) (L.length : Int)
  | 0, i, k, h => by
    obtain rfl : i = L.length := by omega
    rfl
  | d + 1, i, k, h => by
    have w1 : wrap64 ((i : Int) + 1) = ((i + 1 : Nat) : Int) := by rw [w64 (by omega) (by omega)]; omega
    rw [show k + (d + 1) = (k + d) + 1 by omega, rickyardlaw27_LinPoints.l0, if_pos (by omega), if_pos (by omega), if_pos (by rw [dsL_len]; omega), w1]
    rw [← pts_l0 a m L hL d (i + 1) k (by omega), dsL_succ]
    rfl
theorem pts_l1 {a m : Int} {L T : List Oq} {n j : Nat} (hn : L.length = n) (h8 : n ≤ 8) (hj : j < n) (ha : 0 ≤ a ∧ a ≤ 255) (e : a % (n : Int) = (j : Int)) : ∀ (d i k : Nat), i + d = n → rickyardlaw27_LinPoints.l1 (k + d) a m L T (upI (ptsL n j i)) (i : Int) = rickyardlaw27_LinPoints.l1 k a m L T (upI (ptsL n j n)) (n : Int)
  | 0, i, k, h => by
    obtain rfl : i = n := by omega
    rfl
  | d + 1, i, k, h => by
    have o1 : (i : Int) + 1 = ((i + 1 : Nat) : Int) := by omega
    have o3 : (i : Int) + (n : Int) = ((i + n : Nat) : Int) := by omega
    have o4 : ((i + n : Nat) : Int) - (j : Int) = ((i + n - j : Nat) : Int) := by omega
    have o5 : ((i + n - j : Nat) : Int) % (n : Int) = (((i + n - j) % n : Nat) : Int) := by omega
    have b1 : i + 1 < 9223372036854775807 := by omega
    have b3 : i + n < 9223372036854775807 := by omega
    have b4 : i + n - j < 9223372036854775807 := by omega
    have b5 : (0 : Int) ≤ ((i + n - j : Nat) : Int) := by omega
    have c1 : (i : Int) < (n : Int) := by omega
    have c2 : ¬ (n : Int) = 0 := by omega
    have c3 : (upI (ptsL n j i)).length < 17592186044416 := by rw [upI_len, ptsL_len]; omega
    have e1 : k + (d + 1) = (k + d) + 1 := by omega
    have h1 : i + 1 + d = n := by omega
    have w2 : wrap64 a = a := w64 (by omega) (by omega)
    have w1 := w64n o1 b1
    have t1 : Int.tmod a (n : Int) = (j : Int) := (tmod_emod ha.1).trans e
    have w3 := w64n o3 b3
    have w4 := w64n o4 b4
    have t2 : Int.tmod ((i + n - j : Nat) : Int) (n : Int) = (((i + n - j) % n : Nat) : Int) := (tmod_emod b5).trans o5
    rw [e1, rickyardlaw27_LinPoints.l1, hn, if_pos c1, if_neg c2, if_pos c3, w1, w2, t1, w3, w4, t2]
    rw [← pts_l1 hn h8 hj ha e d (i + 1) k h1, ptsL_succ, upI_app]
    rfl
theorem LinPoints : rickyardlaw27_LinPoints.Pure := by
  intro a0 l1 l2 a3 h0 h1 h2 h3 h4 h5 h6 h7
  obtain ⟨m, hm, hm0, hm1⟩ := m_of h0
  have u3 := u8_of h7
  refine ⟨60, ?_⟩
  unfold rickyardlaw27_LinPoints.f
  rw [hm, ops_f m l1 l2 ⟨hm0, by omega⟩ (by omega) h3 h6 60, Option.bind_some]
  have hT := opsF_inT m l1 l2 h6
  generalize opsF m l1 l2 = L at hT ⊢
  have h8 := hT.len
  have e1 := pts_l0 a3 m L h8 L.length 0 (60 - L.length) (by omega)
  rw [show 60 - L.length + L.length = 60 by omega] at e1
  rw [show dsL L 0 = [] from rfl, show ((0 : Nat) : Int) = 0 from rfl] at e1
  refine Eq.trans e1 ?_
  clear e1
  obtain ⟨k1, hk1⟩ : ∃ k1, 60 - L.length = k1 + 1 := ⟨59 - L.length, by omega⟩
  rw [hk1, rickyardlaw27_LinPoints.l0, if_neg (by omega), show Pr.model_New.f m = some (m, []) from rfl, Option.bind_some, acc_f ⟨hm0, by omega⟩ (by rw [dsL_len]; omega), Option.bind_some]
  cases ok : (accsL m [] (dsL L L.length)).2.2 with
  | false => rfl
  | true =>
    rw [if_pos rfl, turn_f L a3 (by omega) ⟨u3.1, u3.2⟩, Option.bind_some]
    rcases Nat.eq_zero_or_pos L.length with hz | hz
    · obtain rfl := List.eq_nil_of_length_eq_zero hz
      have hF : FN m ([] : List Oq) [] := FN_mk rfl (by simp) (by simp) (fun i hi _ => absurd hi (by simp)) rfl rfl
      obtain ⟨R, h1, h2, _⟩ := ordF_some (m := m) (l := ([] : List Oq)) rfl (by simp) hF
      have hR : R = [] := List.eq_nil_of_length_eq_zero (Nat.le_zero.1 (FN_len h2))
      subst hR
      obtain ⟨k2, rfl⟩ : ∃ k2, k1 = k2 + 5 := ⟨54, by simp at hk1; omega⟩
      rw [show turnF ([] : List Oq) a3 = [] from rfl, rickyardlaw27_LinPoints.l1, if_neg (by simp), order_some hm0 (by omega) (by simp) h1, Option.bind_some, if_pos rfl, fits_fp ⟨hm0, by omega⟩ (by simp) (by simp), show fitsB m ([] : List Oq) [] = true from hF, Option.bind_some, if_pos rfl]
      have := ahead_no [] [] [] (k2 + 2) (left_refl []) (by simp [upI]) (by simp [upI])
      unfold rickyardlaw27_ahead.f
      rw [show rickyardlaw27_ahead.l0 (k2 + 4) [] (upI []) 0 = some false from this, Option.bind_some]
      rfl
    · obtain ⟨j, hj, ej, et⟩ := turnF_pos (l := L) rfl hz a3
      have hF := pts_FN hT rfl hj ok
      have hlen : (L.drop j ++ L.take j).length = L.length := by rw [List.length_append, List.length_drop, List.length_take]; omega
      obtain ⟨R, hR1, hR2, hR3⟩ := ordF_some (dropTake_may hT.may j) (by omega) hF
      have hlt := hR3 _ hF
      have e2 := pts_l1 (m := m) (L := L) (T := turnF L a3) rfl h8 hj ⟨u3.1, u3.2⟩ ej L.length 0 (k1 - L.length) (by omega)
      rw [show k1 - L.length + L.length = k1 by omega] at e2
      refine Eq.trans e2 ?_
      obtain ⟨k2, hk2⟩ : ∃ k2, k1 - L.length = (k2 + 2 * (ptsL L.length j L.length).length + 2) + 1 := ⟨k1 - L.length - 3 - 2 * L.length, by rw [ptsL_len]; omega⟩
      have hRl := FN_len hR2
      rw [hk2, rickyardlaw27_LinPoints.l1, if_neg (by omega), et, order_some hm0 (by omega) (by omega) hR1, Option.bind_some, if_pos rfl, fits_fp ⟨hm0, by omega⟩ (by omega) (by rw [upI_len, ptsL_len]; omega), show fitsB m (L.drop j ++ L.take j) (upI (ptsL L.length j L.length)) = true from hF, Option.bind_some, if_pos rfl]
      have := ahead_no (ptsL L.length j L.length) R [] k2 hlt (by rw [List.nil_append, upI_len, ptsL_len]; omega) (by rw [List.nil_append, upI_len]; omega)
      unfold rickyardlaw27_ahead.f
      rw [show rickyardlaw27_ahead.l0 (k2 + 2 * (ptsL L.length j L.length).length + 2) (upI (ptsL L.length j L.length)) (upI R) 0 = some false from this, Option.bind_some]
      rfl
end Go.Proofs.Ytpddppipjlagfaa.Pure
