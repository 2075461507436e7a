/- An order that fits has a first one; what lin.Order answers, in plain words. No statement is proved here. -/
import Derived.Test.YtpddppipjlagfaaLinGiven
import Derived.Test.YtpddppipjlagfaaPrx25
namespace Go.Proofs.Ytpddppipjlagfaa.Pure
set_option linter.unusedVariables false
set_option linter.unusedSimpArgs false
open Go.RowKit Go.Proofs.YtpddppipjlagfaaW.PrintWords Go.Proofs.YtpddppipjlagfaaW.PrintLast Go.Proofs.YtpddppipjlagfaaW.PrintMore Pr Go.Proofs.Ytpddppipjlagfaa.Dfs

section
variable {m : Int} {l : List Oq}
theorem FN_places {P : List Nat} (h : FN m l P) : placesB l (upI P) = true := ((fits_iff (upI P)).1 h).2.1
theorem FN_len {P : List Nat} (h : FN m l P) : P.length ≤ l.length := by
  have := places_len (FN_places h)
  rwa [upI_len] at this
theorem ordF_none (h : ∀ P, ¬ FN m l P) : ordF m l = none := by
  apply ordF_is
  unfold ordP
  split
  · exact h
  · rfl
theorem ordF_bad (h : ¬ (mayB l = true ∧ l.length ≤ 8)) : ordF m l = none := by
  apply ordF_is
  unfold ordP
  rw [if_neg h]
theorem ordF_some (h1 : mayB l = true) (h2 : l.length ≤ 8) {P : List Nat} (h : FN m l P) : ∃ R, ordF m l = some R ∧ FN m l R ∧ ∀ Q, FN m l Q → left R 0 Q := by
  have h3 := ordF_spec m l
  unfold ordP at h3
  rw [if_pos ⟨h1, h2⟩] at h3
  cases e : ordF m l with
  | none => rw [e] at h3; exact absurd h (h3 P)
  | some R => rw [e] at h3; exact ⟨R, rfl, h3⟩
theorem ordF_fits {R : List Nat} (h : ordF m l = some R) : mayB l = true ∧ l.length ≤ 8 ∧ FN m l R := by
  have h3 := ordF_spec m l
  exact mayB_of h3 h
theorem ordF_no (h1 : mayB l = true) (h2 : l.length ≤ 8) (h : ordF m l = none) (P : List Nat) : ¬ FN m l P := by
  have h3 := ordF_spec m l
  unfold ordP at h3
  rw [if_pos ⟨h1, h2⟩, h] at h3
  exact h3 P
theorem order_f (h0 : 0 ≤ m) (h1 : m ≤ 16384) (h2 : l.length ≤ 500) : Pr.lin_Order.f m l = some (upI ((ordF m l).getD []), (ordF m l).isSome) := by
  unfold Pr.lin_Order.f
  rw [if_pos ⟨⟨h0, h1⟩, h2⟩]
theorem order_some (h0 : 0 ≤ m) (h1 : m ≤ 16384) (h2 : l.length ≤ 500) {R : List Nat} (h : ordF m l = some R) : Pr.lin_Order.f m l = some (upI R, true) := by
  rw [order_f h0 h1 h2, h]
  rfl
theorem order_none (h0 : 0 ≤ m) (h1 : m ≤ 16384) (h2 : l.length ≤ 500) (h : ordF m l = none) : Pr.lin_Order.f m l = some ([], false) := by
  rw [order_f h0 h1 h2, h]
  rfl
/-- An order as its places among those that are: nodup, within. -/
theorem FN_nodup {P : List Nat} (h : FN m l P) : P.Nodup := by
  have := ((placesB_iff l (upI P)).1 (FN_places h)).2
  unfold upI at this
  exact (List.pairwise_map.1 this).imp (fun h e => h (by rw [e]))
theorem FN_lt {P : List Nat} (h : FN m l P) : ∀ p ∈ P, p < l.length := fun p hp => by
  have := ((placesB_iff l (upI P)).1 (FN_places h)).1 p (upI_mem.2 hp)
  unfold inB at this
  simp at this
  omega
theorem FN_full {P : List Nat} (h : FN m l P) (i : Nat) (hi : i < l.length) (he : (opL l (i : Int)).f2 ≠ -1) : i ∈ P := by
  have := ((fits_iff (upI P)).1 h).2.2.1
  unfold fullB at this
  have := List.all_eq_true.1 this i (by simpa using hi)
  unfold endB at this
  simp only [bne_iff_ne, ne_eq, Bool.or_eq_true, Bool.not_eq_true', decide_eq_true_eq] at this
  rcases this with h | h
  · simp [he] at h
  · exact upI_mem.1 h
theorem FN_acc {P : List Nat} (h : FN m l P) : (accsL m [] (P.map fun (p : Nat) => (opL l (p : Int)).f0)).2.2 = true := by
  have := ((fits_iff (upI P)).1 h).2.2.2.2
  unfold deedsF upI at this
  rw [List.map_map] at this
  exact this
theorem FN_mk {P : List Nat} (h1 : mayB l = true) (h2 : P.Nodup) (h3 : ∀ p ∈ P, p < l.length) (h4 : ∀ i, i < l.length → (opL l (i : Int)).f2 ≠ -1 → i ∈ P) (h5 : ahF l (upI P) = true) (h6 : (accsL m [] (P.map fun (p : Nat) => (opL l (p : Int)).f0)).2.2 = true) : FN m l P := by
  refine (fits_iff (upI P)).2 ⟨h1, (placesB_iff l (upI P)).2 ⟨fun x hx => ?_, ?_⟩, ?_, h5, ?_⟩
  · unfold upI at hx
    obtain ⟨p, hp, rfl⟩ := List.mem_map.1 hx
    have := h3 p hp
    unfold inB
    simp
    omega
  · unfold upI
    exact List.pairwise_map.2 (h2.imp (fun {a b} h e => h (by have e2 : ((a : Nat) : Int) = ((b : Nat) : Int) := e; omega)))
  · unfold fullB
    refine List.all_eq_true.2 (fun i hi => ?_)
    have hi' : i < l.length := by simpa using hi
    unfold endB
    by_cases c : (opL l (i : Int)).f2 = -1
    · simp [c]
    · have := upI_mem.2 (h4 i hi' c)
      simp [this]
  · unfold deedsF upI
    rw [List.map_map]
    exact h6
end
end Go.Proofs.Ytpddppipjlagfaa.Pure
