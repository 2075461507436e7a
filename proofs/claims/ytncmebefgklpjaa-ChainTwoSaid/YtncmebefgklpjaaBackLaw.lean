/- What pushes and pops of unlike places leave in a list of words: plain law. No statement is proved here. -/
import Derived.Test.YtncmebefgklpjaaPlaces
namespace Go.Proofs.Ytncmebefgklpjaa
set_option linter.unusedVariables false
open Go.RowKit

/-- k words set: the t-th at f t, to g t. -/
def setsM (m : List Int) (f : Nat → Nat) (g : Nat → Int) : Nat → List Int
  | 0 => m
  | k + 1 => (setsM m f g k).set (f k) (g k)
theorem setsM_len (m : List Int) (f : Nat → Nat) (g : Nat → Int) (k : Nat) : (setsM m f g k).length = m.length := by
  induction k with
  | zero => rfl
  | succ k ih => simp [setsM, ih]
theorem sets_miss (m : List Int) (f : Nat → Nat) (g : Nat → Int) (k j : Nat) (h : ∀ t, t < k → f t ≠ j) : rd0 (setsM m f g k) j = rd0 m j := by
  induction k with
  | zero => rfl
  | succ k ih =>
    rw [setsM, rd0_set, if_neg (fun e => h k (by omega) e.1)]
    exact ih (fun t ht => h t (by omega))
theorem sets_hit (m : List Int) (f : Nat → Nat) (g : Nat → Int) (k : Nat) (hi : ∀ t t', t < k → t' < k → t ≠ t' → f t ≠ f t') (t : Nat) (ht : t < k) (hl : f t < m.length) : rd0 (setsM m f g k) (f t) = g t := by
  induction k with
  | zero => omega
  | succ k ih =>
    rw [setsM, rd0_set, setsM_len]
    by_cases e : t = k
    · subst e
      rw [if_pos ⟨rfl, hl⟩]
    · rw [if_neg (fun h => hi k t (by omega) (by omega) (fun e' => e e'.symm) h.1)]
      exact ih (fun a b ha hb => hi a b (by omega) (by omega)) (by omega)

theorem pushM_sets (m l : List Int) (k : Nat) : pushM m l k = setsM m (fun t => (rd0 l t).toNat) (headAt l) k := by
  induction k with
  | zero => rfl
  | succ k ih => rw [pushM, setsM, ih]
/-- The words behind t pops of n, each told to the list. -/
def backM (m l : List Int) (n t : Nat) : List Int := setsM m (fun t => (rd0 l (n - 1 - t)).toNat) (fun t => headAt l (n - 1 - t)) t
theorem places_inj (l : List Int) (hn : l.Nodup) (hb : ∀ x ∈ l, 0 ≤ x ∧ x < ((128 : Nat) : Int)) (a b : Nat) (ha : a < l.length) (hb' : b < l.length) (hne : a ≠ b) : (rd0 l a).toNat ≠ (rd0 l b).toNat := by
  rw [rd0_get l a ha, rd0_get l b hb']
  have h1 := hb _ (List.getElem_mem ha)
  have h2 := hb _ (List.getElem_mem hb')
  intro e
  have e2 : l[a] = l[b] := by omega
  have hp := List.pairwise_iff_getElem.1 hn
  rcases Nat.lt_or_gt_of_ne hne with h | h
  · exact hp a b ha hb' h e2
  · exact hp b a hb' ha h e2.symm
theorem back_eq (m l : List Int) (hn : l.Nodup) (hb : ∀ x ∈ l, 0 ≤ x ∧ x < ((128 : Nat) : Int)) (hm : m.length = 128) : backM m l l.length l.length = pushM m l l.length := by
  rw [pushM_sets]
  unfold backM
  have i1 : ∀ t t', t < l.length → t' < l.length → t ≠ t' → (fun t => (rd0 l t).toNat) t ≠ (fun t => (rd0 l t).toNat) t' := fun t t' h h' hne => places_inj l hn hb t t' h h' hne
  have i2 : ∀ t t', t < l.length → t' < l.length → t ≠ t' → (fun t => (rd0 l (l.length - 1 - t)).toNat) t ≠ (fun t => (rd0 l (l.length - 1 - t)).toNat) t' := fun t t' h h' hne => places_inj l hn hb _ _ (by omega) (by omega) (by omega)
  have hbd : ∀ t, t < l.length → (rd0 l t).toNat < m.length := fun t ht => by
    rw [rd0_get l t ht]
    have := hb _ (List.getElem_mem ht)
    omega
  apply rd0_ext
  · rw [setsM_len, setsM_len]
  · intro j hj
    by_cases h : ∃ t, t < l.length ∧ (rd0 l t).toNat = j
    · obtain ⟨t, ht, e⟩ := h
      have h1 := sets_hit m (fun t => (rd0 l t).toNat) (headAt l) l.length i1 t ht (hbd t ht)
      have h2 := sets_hit m (fun t => (rd0 l (l.length - 1 - t)).toNat) (fun t => headAt l (l.length - 1 - t)) l.length i2 (l.length - 1 - t) (by omega) (hbd _ (by omega))
      have e3 : l.length - 1 - (l.length - 1 - t) = t := by omega
      simp only [e3] at h2
      simp only [e] at h1 h2
      rw [h1, h2]
    · rw [sets_miss, sets_miss]
      · intro t ht e
        exact h ⟨t, ht, e⟩
      · intro t ht e
        exact h ⟨l.length - 1 - t, by omega, e⟩
theorem back_step (m l : List Int) (q : Nat) (hq : q < l.length) : backM m l l.length (l.length - q) = (backM m l l.length (l.length - (q + 1))).set (rd0 l q).toNat (headAt l q) := by
  have e : l.length - q = (l.length - (q + 1)) + 1 := by omega
  unfold backM
  rw [e, setsM]
  have e2 : l.length - 1 - (l.length - (q + 1)) = q := by omega
  simp only [e2]
/-- What is popped behind all pushes. -/
theorem pop_pushed (m l : List Int) (hn : l.Nodup) (hb : ∀ x ∈ l, 0 ≤ x ∧ x < ((128 : Nat) : Int)) (hm : m.length = 128) (q : Nat) (hq : q < l.length) : popS (pushM m l l.length) (headAt l (q + 1)) = (rd0 l q, headAt l q, 0) := by
  have hx : 0 ≤ rd0 l q ∧ rd0 l q < 128 := by rw [rd0_get l q hq]; exact hb _ (List.getElem_mem hq)
  have hh := headAt_in l 128 hb q (by omega)
  have e1 : headAt l (q + 1) = rd0 l q + 1 := by simp [headAt]
  have h1 := sets_hit m (fun t => (rd0 l t).toNat) (headAt l) l.length (fun t t' h h' hne => places_inj l hn hb t t' h h' hne) q hq (by omega)
  rw [← pushM_sets] at h1
  unfold popS
  rw [pushM_len, e1, if_neg (by omega), if_neg (by omega), if_neg (by omega)]
  have e2 : rd0 l q + 1 - 1 = rd0 l q := by omega
  rw [e2, h1, if_neg (by omega), wrap64_in _ (by omega) (by omega)]
end Go.Proofs.Ytncmebefgklpjaa
