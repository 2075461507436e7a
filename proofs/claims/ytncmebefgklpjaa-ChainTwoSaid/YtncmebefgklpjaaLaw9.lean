/- What the statements of layer 9 are made of: the document's answers, awake, pushed: contracts. No statement is proved here. -/
import Derived.Test.YtncmebefgklpjaaChain2
namespace Go.Proofs.Ytncmebefgklpjaa
set_option linter.unusedVariables false
set_option linter.unusedSimpArgs false
open Go.RowKit Go.Proofs.YtncmebefgklpjaaW.PrintWords Go.Proofs.YtncmebefgklpjaaW.PrintLast Go.Proofs.YtncmebefgklpjaaW.PrintMore

theorem wrap64_in (x : Int) (h0 : -9223372036854775808 ≤ x) (h1 : x ≤ 9223372036854775807) : wrap64 x = x := by unfold wrap64; omega
theorem wrapu_in (x : Int) (h0 : 0 ≤ x) (h1 : x ≤ 9223372036854775807) : IntKind.u64.wrap x = x := by
  simp [IntKind.wrap, IntKind.signed, IntKind.bits]; omega
theorem rd_rd0 (m : List Int) (i : Int) : rd m i = rd0 m i.toNat := rfl

theorem r9Pop_eq (k : Nat) (m : List Int) (h : Int) (hm : m.length ≤ 16384) (h0 : -9223372036854775808 ≤ h) (h1 : h ≤ 9223372036854775807) : Pr.rickyardref9_Pop.f (k + 1) m h = some (popS m h) := by
  have hu : IntKind.u64.wrap ((m.length : Int)) = (m.length : Int) := wrapu_in _ (by omega) (by omega)
  unfold Pr.rickyardref9_Pop.f popS
  by_cases c0 : h = 0
  · rw [if_pos c0, if_pos c0]
  · rw [if_neg c0, if_neg c0]
    by_cases c1 : h < 1
    · rw [if_pos c1, if_pos (show h < 0 by omega)]
      simp [Pr.rickyardref9_Pop.j0]
    · rw [if_neg c1, if_neg (show ¬ h < 0 by omega)]
      by_cases c2 : (m.length : Int) < h
      · rw [if_pos c2]
        simp [Pr.rickyardref9_Pop.j0, c2]
      · rw [if_neg c2]
        have e1 : decide (h > (m.length : Int)) = false := decide_eq_false (by omega)
        rw [e1]
        simp only [Pr.rickyardref9_Pop.j0]
        rw [if_neg (by decide), wrap64_in (h - 1) (by omega) (by omega), if_pos (by omega), if_pos (by omega), rd_rd0, hu]
        by_cases c3 : (m.length : Int) < rd0 m (h - 1).toNat
        · rw [if_pos c3, if_pos c3]
        · rw [if_neg c3, if_neg c3]

theorem r9Push_eq (m : List Int) (h a : Int) (hm : m.length ≤ 16384) : Pr.rickyardref9_Push.f m h a = some (pushS m h a) := by
  unfold Pr.rickyardref9_Push.f pushS
  by_cases c0 : a < 0
  · rw [if_pos c0]
    by_cases c1 : h < 0 ∨ (m.length : Int) < h
    · rw [if_pos c1]
    · rw [if_neg c1, if_pos (.inl c0)]
  · rw [if_neg c0]
    by_cases c1 : a ≥ (m.length : Int)
    · rw [if_pos c1]
      by_cases c2 : h < 0 ∨ (m.length : Int) < h
      · rw [if_pos c2]
      · rw [if_neg c2, if_pos (.inr c1)]
    · rw [if_neg c1]
      by_cases c2 : h < 0
      · rw [if_pos c2, if_pos (.inl c2)]
      · rw [if_neg c2]
        by_cases c3 : h > (m.length : Int)
        · rw [if_pos c3, if_pos (.inr c3)]
        · rw [if_neg c3, if_neg (by omega), if_neg (by omega)]
          simp only [Option.bind_some, List.length_nil, List.nil_append]
          rw [if_pos (by omega), if_pos (by omega), if_pos (by omega), wrapu_in h (by omega) (by omega), wrap64_in (a + 1) (by omega) (by omega)]

theorem popS_pos {m : List Int} {h : Int} (hm : m.length ≤ 16384) (hn : ∀ i, 0 ≤ rd0 m i) : 0 ≤ (popS m h).2.1 := by
  have h1 := hn (h - 1).toNat
  unfold popS
  generalize rd0 m (h - 1).toNat = x at *
  repeat' split
  all_goals simp
  unfold wrap64; omega

theorem r9WalkS_eq (m : List Int) (most : Int) (hm : m.length ≤ 16384) (hn : ∀ i, 0 ≤ rd0 m i) (hmost : most ≤ 1000000) : ∀ (n k : Nat) (h : Int) (out : List Int), n + 2 ≤ k → (n : Int) = max 0 (most - out.length) → 0 ≤ h → h ≤ 9223372036854775807 →
    Pr.rickyardref9_Walk.l0 k m h most out = some (walkS m n h out)
  | 0, 0, _, _, hk, _, _, _ => by omega
  | 0, k + 1, h, out, hk, hl, h0, h1 => by
    simp only [Pr.rickyardref9_Walk.l0, walkS]
    by_cases c : h > 0
    · rw [if_pos c, if_pos (by omega), if_neg (by omega)]
    · rw [if_neg c, if_pos (by omega)]
  | n + 1, 0, _, _, hk, _, _, _ => by omega
  | n + 1, k + 1, h, out, hk, hl, h0, h1 => by
    simp only [Pr.rickyardref9_Walk.l0]
    unfold walkS
    by_cases c : h > 0
    · rw [if_pos c, if_neg (by omega), if_neg (by omega)]
      obtain ⟨k, rfl⟩ : ∃ j, k = j + 1 := ⟨k - 1, by omega⟩
      rw [r9Pop_eq k m h hm (by omega) h1]
      simp only [Option.bind_some]
      by_cases c3 : (popS m h).2.2 = 0
      · rw [if_pos c3, if_pos c3, if_pos (by omega)]
        exact r9WalkS_eq m most hm hn hmost n (k + 1) _ _ (by omega) (by simp; omega) (popS_pos hm hn) (popS_hi m h).2
      · rw [if_neg c3, if_neg c3]
    · rw [if_neg c, if_pos (by omega)]
theorem r9Walk_eq (m : List Int) (h most : Int) (hm : m.length ≤ 16384) (hn : ∀ i, 0 ≤ rd0 m i) (hmost : most ≤ 1000000) : Pr.rickyardref9_Walk.f (most.toNat + 3) m h most = some (walkT m h most) := by
  unfold Pr.rickyardref9_Walk.f walkT
  by_cases c1 : h < 0
  · rw [if_pos c1, if_pos (.inl c1)]
    simp [Pr.rickyardref9_Walk.j0]
  · rw [if_neg c1]
    by_cases c2 : (m.length : Int) < h
    · rw [if_pos (.inr c2)]
      simp [Pr.rickyardref9_Walk.j0, c2]
    · rw [if_neg (by omega)]
      have e1 : decide (h > (m.length : Int)) = false := decide_eq_false (by omega)
      rw [e1]
      simp only [Pr.rickyardref9_Walk.j0]
      rw [if_neg (by decide)]
      exact r9WalkS_eq m most hm hn hmost most.toNat _ h [] (by omega) (by simp; omega) (by omega) (by omega)

theorem sameInts_from (l : List Int) (hl : l.length ≤ 17592186044416) (d : Nat) : ∀ (k : Nat) (i : Int), 0 ≤ i → i ≤ l.length → (l.length : Int) - i = d → d < k → Pr.rickyardref1_SameInts.l0 k l l i = some true := by
  induction d with
  | zero =>
    intro k i h0 h1 hd hk
    obtain ⟨k, rfl⟩ : ∃ m, k = m + 1 := ⟨k - 1, by omega⟩
    simp only [Pr.rickyardref1_SameInts.l0]
    rw [if_neg (by omega)]
  | succ d ih =>
    intro k i h0 h1 hd hk
    obtain ⟨k, rfl⟩ : ∃ m, k = m + 1 := ⟨k - 1, by omega⟩
    simp only [Pr.rickyardref1_SameInts.l0]
    rw [if_pos (by omega), if_pos h0, if_pos (by omega), if_pos trivial, wrap_succ h0 (n := l.length) (by omega) hl]
    exact ih k (i + 1) (by omega) (by omega) (by omega) (by omega)
theorem sameInts_refl (l : List Int) (hl : l.length ≤ 17592186044416) : Pr.rickyardref1_SameInts.f (l.length + 1) l l = some true := by
  unfold Pr.rickyardref1_SameInts.f
  rw [if_pos rfl]
  exact sameInts_from l hl l.length _ 0 (by omega) (by omega) (by omega) (by omega)

set_option maxHeartbeats 2000000 in
theorem awake9 (w : World) : Calls Try.prog 32 #[] w fun e w' => e = .returned (.bool true) ∧ Below w.heap.size w w' := by
  go_enter Try.func32, Try.ntmps32
  go_wp2_with fail
  (with_reducible refine (new_any 2 w (by omega) (by omega)).mono ?_); rintro e w1 ⟨ga, gb, rfl, ha, hga, hgb, hb⟩
  obtain ⟨m0, hm0⟩ : ∃ m0 : List Int, m0 = List.replicate ((2 : Int).toNat * 64) 0 := ⟨_, rfl⟩
  rw [← hm0] at ha
  have hl : m0.length = 128 := by rw [hm0]; simp
  have HA := Sh.mk ha
  have HB := Sh.mk hb
  have HP : Sh (pushS m0 0 64 = (m0.set 64 0, 65, 0)) := ⟨by unfold pushS; rw [if_neg (by omega), if_neg (by omega)]; rfl⟩
  have hv : rd0 (m0.set 64 0) 64 = 0 := by rw [rd0_set]; simp; omega
  have HQ : Sh (popS (m0.set 64 0) 65 = (64, 0, 0)) := ⟨by
    unfold popS
    have e2 : ((65 : Int) - 1).toNat = 64 := rfl
    rw [if_neg (by omega), if_neg (by omega), if_neg (by simp; omega), e2, hv, if_neg (by omega), wrap64_in 0 (by omega) (by omega)]
    rfl⟩
  clear ha hb hm0 hl hv
  go_wp2_with fail
  (with_reducible refine (push_any ga gb m0 0 64 _ HA.out).mono ?_); rintro e w2 ⟨rfl, h5, h6⟩
  rw [HP.out] at h5
  rw [HP.out]
  have H5 := Sh.mk h5
  have H6 := Sh.mk h6
  clear h5 h6
  go_wp2_with fail
  (with_reducible refine (pop_any ga gb _ 65 _ H5.out (by omega) (by omega)).mono ?_); rintro e w' ⟨rfl, rfl⟩
  rw [HQ.out]
  go_wp2
  go_ret
  exact ⟨rfl, HB.out.trans (H6.out.toBelow HB.out.size (by simp; exact hgb))⟩
end Go.Proofs.Ytncmebefgklpjaa
