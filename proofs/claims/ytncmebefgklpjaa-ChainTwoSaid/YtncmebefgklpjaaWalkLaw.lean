/- What a walk along pushed places tells: plain law. No statement is proved here. -/
import Derived.Test.YtncmebefgklpjaaBackLaw
namespace Go.Proofs.Ytncmebefgklpjaa
set_option linter.unusedVariables false
open Go.RowKit

theorem headAt_pos (l : List Int) (q : Nat) (hq : q < l.length) (hb : ∀ x ∈ l, 0 ≤ x ∧ x < ((128 : Nat) : Int)) : headAt l (q + 1) ≠ 0 := by
  have hx : 0 ≤ rd0 l q := by rw [rd0_get l q hq]; exact (hb _ (List.getElem_mem hq)).1
  have e1 : headAt l (q + 1) = rd0 l q + 1 := by simp [headAt]
  omega
theorem walk_pushed (m l : List Int) (hn : l.Nodup) (hb : ∀ x ∈ l, 0 ≤ x ∧ x < ((128 : Nat) : Int)) (hm : m.length = 128) : ∀ (q n : Nat) (out : List Int), q ≤ l.length →
    walkS (pushM m l l.length) n (headAt l q) out = if q ≤ n then (out ++ (l.take q).reverse, 0) else ([], 6)
  | 0, n, out, _ => by
    rw [if_pos (by omega)]
    have : headAt l 0 = 0 := by simp [headAt]
    rw [this, walkS_zero]
    simp
  | q + 1, 0, out, hq => by
    rw [if_neg (by omega)]
    unfold walkS
    rw [if_neg (headAt_pos l q (by omega) hb)]
  | q + 1, n + 1, out, hq => by
    unfold walkS
    rw [if_neg (headAt_pos l q (by omega) hb), pop_pushed m l hn hb hm q (by omega)]
    simp only [if_true]
    rw [walk_pushed m l hn hb hm q n _ (by omega)]
    by_cases h : q ≤ n
    · rw [if_pos h, if_pos (by omega)]
      have e : l.take (q + 1) = l.take q ++ [rd0 l q] := by
        rw [List.take_succ_eq_append_getElem (by omega : q < l.length), rd0_get l q (by omega)]
      rw [e]
      simp
    · rw [if_neg h, if_neg (by omega)]
theorem walkT_pushed (m l : List Int) (hn : l.Nodup) (hb : ∀ x ∈ l, 0 ≤ x ∧ x < ((128 : Nat) : Int)) (hm : m.length = 128) (most : Int) :
    walkT (pushM m l l.length) (headAt l l.length) most = if l.length ≤ most.toNat then (l.reverse, 0) else ([], 6) := by
  have hh := headAt_in l 128 hb l.length (Nat.le_refl _)
  unfold walkT
  rw [pushM_len, hm, if_neg (by omega), walk_pushed m l hn hb hm _ _ _ (Nat.le_refl _)]
  simp
/-- A word that means nothing is met. -/
theorem pop_spoilt (m l : List Int) (hn : l.Nodup) (hb : ∀ x ∈ l, 0 ≤ x ∧ x < ((128 : Nat) : Int)) (hm : m.length = 128) (f : Int) (hf : 129 ≤ f) (q : Nat) (hq : q < l.length) :
    popS ((pushM m l l.length).set (rd0 l 0).toNat f) (headAt l (q + 1)) = if q = 0 then (0, 0, 6) else (rd0 l q, headAt l q, 0) := by
  have h := pop_pushed m l hn hb hm q hq
  have hx : 0 ≤ rd0 l q ∧ rd0 l q < 128 := by rw [rd0_get l q hq]; exact hb _ (List.getElem_mem hq)
  have e1 : headAt l (q + 1) = rd0 l q + 1 := by simp [headAt]
  have e2 : rd0 l q + 1 - 1 = rd0 l q := by omega
  unfold popS at h ⊢
  rw [e1] at h ⊢
  rw [pushM_len, if_neg (by omega), if_neg (by omega), if_neg (by omega), e2] at h
  rw [List.length_set, pushM_len, if_neg (by omega), if_neg (by omega), if_neg (by omega), e2]
  by_cases c : q = 0
  · subst c
    have hv : rd0 ((pushM m l l.length).set (rd0 l 0).toNat f) (rd0 l 0).toNat = f := by rw [rd0_set, pushM_len, if_pos ⟨rfl, by omega⟩]
    rw [hv, if_pos (by omega), if_pos rfl]
  · have hne := places_inj l hn hb 0 q (by omega) hq (fun e' => c e'.symm)
    have hv : rd0 ((pushM m l l.length).set (rd0 l 0).toNat f) (rd0 l q).toNat = rd0 (pushM m l l.length) (rd0 l q).toNat := by rw [rd0_set, if_neg (fun e => hne e.1)]
    rw [hv, if_neg c]
    exact h
theorem walk_spoilt (m l : List Int) (hn : l.Nodup) (hb : ∀ x ∈ l, 0 ≤ x ∧ x < ((128 : Nat) : Int)) (hm : m.length = 128) (f : Int) (hf : 129 ≤ f) : ∀ (q n : Nat) (out : List Int), q < l.length →
    walkS ((pushM m l l.length).set (rd0 l 0).toNat f) n (headAt l (q + 1)) out = ([], 6)
  | q, 0, out, hq => by
    unfold walkS
    rw [if_neg (headAt_pos l q hq hb)]
  | 0, n + 1, out, hq => by
    unfold walkS
    have hp := pop_spoilt m l hn hb hm f hf 0 hq
    rw [if_pos rfl] at hp
    rw [if_neg (headAt_pos l 0 hq hb), hp, if_neg (by simp)]
  | q + 1, n + 1, out, hq => by
    unfold walkS
    have hp := pop_spoilt m l hn hb hm f hf (q + 1) hq
    rw [if_neg (by omega)] at hp
    rw [if_neg (headAt_pos l (q + 1) hq hb), hp, if_pos rfl]
    exact walk_spoilt m l hn hb hm f hf q n _ (by omega)
theorem walkT_spoilt (m l : List Int) (hn : l.Nodup) (hb : ∀ x ∈ l, 0 ≤ x ∧ x < ((128 : Nat) : Int)) (hm : m.length = 128) (f : Int) (hf : 129 ≤ f) (h0 : 0 < l.length) (most : Int) :
    walkT ((pushM m l l.length).set (rd0 l 0).toNat f) (headAt l l.length) most = ([], 6) := by
  have hh := headAt_in l 128 hb l.length (Nat.le_refl _)
  unfold walkT
  rw [List.length_set, pushM_len, hm, if_neg (by omega)]
  have := walk_spoilt m l hn hb hm f hf (l.length - 1) most.toNat [] (by omega)
  rwa [show l.length - 1 + 1 = l.length from by omega] at this
theorem rd0_reverse (l : List Int) (i : Nat) (hi : i < l.length) : rd0 l.reverse i = rd0 l (l.length - 1 - i) := by
  rw [rd0_get _ _ (by simpa using hi), rd0_get _ _ (by omega)]
  simp
end Go.Proofs.Ytncmebefgklpjaa
