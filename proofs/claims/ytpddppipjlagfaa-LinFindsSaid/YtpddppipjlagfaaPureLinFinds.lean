/- LinFinds in plain words: an order that is found fits; where none is found, nothing fits. No row is proved here. -/
import Derived.Test.YtpddppipjlagfaaPrx37
import Derived.Test.YtpddppipjlagfaaLinOps
namespace Go.Proofs.Ytpddppipjlagfaa.Pure
set_option linter.unusedVariables false
set_option linter.unusedSimpArgs false
open Go.RowKit Go.Proofs.YtpddppipjlagfaaW.PrintWords Go.Proofs.YtpddppipjlagfaaW.PrintLast Go.Proofs.YtpddppipjlagfaaW.PrintMore Pr Go.Proofs.Ytpddppipjlagfaa.Dfs

theorem fits_f {m : Int} {l : List Oq} {o : List Int} (h : 0 ≤ m ∧ m ≤ 16384) (h1 : l.length ≤ 500) (h2 : o.length ≤ 1000) : Pr.lin_Fits.f m l o = some (fitsB m l o) := by
  unfold Pr.lin_Fits.f
  rw [if_pos ⟨h, h1, h2⟩]
theorem upI_of {n : Nat} : ∀ o : List Int, (∀ x ∈ o, 0 ≤ x ∧ x < (n : Int)) → ∃ P : List Nat, o = upI P
  | [], _ => ⟨[], rfl⟩
  | x :: o, h => by
    obtain ⟨P, hP⟩ := upI_of o (fun y hy => h y (List.mem_cons_of_mem _ hy))
    have := h x List.mem_cons_self
    exact ⟨x.toNat :: P, by rw [hP]; unfold upI; simp; omega⟩
theorem none_fits {m : Int} {l : List Oq} (hl : l.length ≤ 8) (h : ordF m l = none) (o : List Int) : fitsB m l o = false := by
  cases e : fitsB m l o with
  | false => rfl
  | true =>
    exfalso
    have h1 := (fits_iff o).1 e
    obtain ⟨P, rfl⟩ := upI_of (n := l.length) o (places_in h1.2.1)
    exact ordF_no h1.1 hl h P e
theorem finds_loop {m : Int} {T : List Oq} (hm : 0 ≤ m ∧ m ≤ 16384) (hl : T.length ≤ 8) (h : ordF m T = none) : ∀ (d i k : Nat) (u v : List Int), i + d = T.length → u.length ≤ i → v.length ≤ i → rickyardlaw27_LinFinds.l0 (k + d + 1) m T [] u v (i : Int) = some true := by
  intro d
  induction d with
  | zero =>
    intro i k u v hi hu hv
    rw [rickyardlaw27_LinFinds.l0, if_neg (by omega), if_pos (by simp), fits_f hm (by omega) (by omega), none_fits hl h, Option.bind_some, if_neg (by simp), fits_f hm (by omega) (by omega), none_fits hl h, Option.bind_some, if_neg (by simp)]
    have hs : (sortF T).length = T.length := sortU_len T T.length
    rw [show Pr.rickyardlaw27_Sorted.f T = some (sortF T) from if_pos (by omega), Option.bind_some, fits_f hm (by omega) (by omega), none_fits hl h, Option.bind_some, if_neg (by simp)]
    rfl
  | succ d ih =>
    intro i k u v hi hu hv
    have w1 : wrap64 ((i : Int) + 1) = ((i + 1 : Nat) : Int) := by rw [w64 (by omega) (by omega)]; omega
    rw [show k + (d + 1) + 1 = (k + d + 1) + 1 by omega, rickyardlaw27_LinFinds.l0, if_pos (by omega), if_pos (by omega), if_pos (by omega), w1]
    exact ih (i + 1) k _ _ (by omega) (by simp; omega) (by simp; omega)
theorem LinFinds : rickyardlaw27_LinFinds.Pure := by
  intro a0 l1 l2 a3 h0 h1 h2 h3 h4 h5 h6 h7
  obtain ⟨m, hm, hm0, hm1⟩ := m_of h0
  have u3 := u8_of h7
  refine ⟨18, ?_⟩
  unfold rickyardlaw27_LinFinds.f
  rw [hm, ops_f m l1 l2 ⟨hm0, by omega⟩ (by omega) h3 h6 18, Option.bind_some, turn_f _ _ (by have := opsF_len m l1 l2; omega) ⟨u3.1, u3.2⟩, Option.bind_some]
  have hT : (turnF (opsF m l1 l2) a3).length ≤ 8 := by rw [turnF_len]; exact opsF_len m l1 l2
  generalize turnF (opsF m l1 l2) a3 = T at hT ⊢
  cases e : ordF m T with
  | some R =>
    have hF := ordF_fits e
    have hR := FN_len hF.2.2
    rw [order_some hm0 (by omega) (by omega) e, Option.bind_some, if_pos rfl, fits_f ⟨hm0, by omega⟩ (by omega) (by rw [upI_len]; omega), show fitsB m T (upI R) = true from hF.2.2, Option.bind_some, if_pos rfl]
    rfl
  | none =>
    rw [order_none hm0 (by omega) (by omega) e, Option.bind_some, if_neg (by simp)]
    have := finds_loop ⟨hm0, by omega⟩ hT e T.length 0 (17 - T.length) [] [] (by omega) (by simp) (by simp)
    rw [show 17 - T.length + T.length + 1 = 18 by omega] at this
    exact this
end Go.Proofs.Ytpddppipjlagfaa.Pure
