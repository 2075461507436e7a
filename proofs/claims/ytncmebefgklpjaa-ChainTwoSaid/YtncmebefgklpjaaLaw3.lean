/- Words and awake of the statements of layer 3: contracts. No statement is proved here. -/
import Derived.Test.YtncmebefgklpjaaLaid
namespace Go.Proofs.Ytncmebefgklpjaa
set_option linter.unusedVariables false
open Go.RowKit Go.Proofs.YtncmebefgklpjaaW.PrintWords Go.Proofs.YtncmebefgklpjaaW.PrintLast

theorem wrap_succ {i : Int} {n : Nat} (h0 : 0 ≤ i) (h : i < (n : Int)) (hn : n ≤ 17592186044416) : wrap64 (i + 1) = i + 1 := by unfold wrap64; omega
theorem same64_from (l : List Int) (hl : l.length ≤ 17592186044416) (d : Nat) : ∀ (k : Nat) (i : Int), 0 ≤ i → i ≤ l.length → (l.length : Int) - i = d → d < k → Pr.rickyardref1_SameWords.l0 k l l i = some true := by
  induction d with
  | zero =>
    intro k i h0 h1 hd hk
    obtain ⟨k, rfl⟩ : ∃ m, k = m + 1 := ⟨k - 1, by omega⟩
    simp only [Pr.rickyardref1_SameWords.l0]
    rw [if_neg (by omega)]
  | succ d ih =>
    intro k i h0 h1 hd hk
    obtain ⟨k, rfl⟩ : ∃ m, k = m + 1 := ⟨k - 1, by omega⟩
    simp only [Pr.rickyardref1_SameWords.l0]
    rw [if_pos (by omega), if_pos h0, if_pos (by omega), if_pos trivial, wrap_succ h0 (n := l.length) (by omega) hl]
    exact ih k (i + 1) (by omega) (by omega) (by omega) (by omega)
theorem same64_refl (l : List Int) (hl : l.length ≤ 17592186044416) : Pr.rickyardref1_SameWords.f (l.length + 1) l l = some true := by
  unfold Pr.rickyardref1_SameWords.f
  rw [if_pos rfl]
  exact same64_from l hl l.length _ 0 (by omega) (by omega) (by omega) (by omega)

set_option maxHeartbeats 1000000 in
theorem words_yes (ga gb : Nat) (m : List Int) (A : Option Addr) (c : Nat) (w : World) (h : Ar w ga gb m) (hr : Kd.C (Kd.int .u64) w A m.length m) (hc : m.length ≤ c) :
    Calls Try.prog 20 #[.pointer (some ⟨ga, 0, none⟩), .slice A m.length c] w fun e w' => e = .returned (.bool true) ∧ Below w.heap.size w w' := by
  have hs := h.small
  have HA := Sh.mk h
  have HR := Sh.mk hr
  have HT : Sh (There m.length 0 m.length) := ⟨⟨by omega, by omega, by omega, by omega⟩⟩
  have hdt : (m.drop (0 : Int).toNat).take (m.length : Int).toNat = m := by simp
  have HD := Sh.mk hdt
  clear h hr hdt
  go_enter Try.func20, Try.ntmps20
  go_wp2_with fail
  (with_reducible refine (slice_in ga gb m 0 _ _ HA.out HT.out).mono ?_); rintro e w1 ⟨v, rfl, h1, h2⟩
  rw [HD.out] at h1
  obtain ⟨A1, c1, rfl, hc1, hC1⟩ := Kd.R_reads h1
  have HC1 := Sh.mk hC1
  have H2 := Sh.mk h2
  have HA1 : Sh (Ar w1 ga gb m) := ⟨HA.out.kp (Kp.of_below h2 []) (by simp) (by simp)⟩
  have HR1 : Sh (Kd.C (Kd.int .u64) w1 A m.length m) := ⟨Kd.C_below HR.out h2⟩
  clear h1 h2 hC1
  go_wp2_with fail
  (with_reducible refine (len_any ga gb m _ HA1.out).mono ?_); rintro e w' ⟨rfl, rfl⟩
  go_wp2_with fail
  (with_reducible refine (Pr.rickyardref1_SameWords.calls (m.length + 1) A1 c1 m A c m true _ HC1.out hc1 HR1.out hc (same64_refl m (by omega))).mono ?_); rintro e w' ⟨rfl, hd⟩
  have HB := Sh.mk (hd.below)
  clear hd
  go_wp2
  go_ret
  exact ⟨rfl, below_then H2.out H2.out.size HB.out⟩

set_option maxHeartbeats 1000000 in
theorem awake3 (w : World) : Calls Try.prog 18 #[] w fun e w' => e = .returned (.bool true) ∧ Below w.heap.size w w' := by
  go_enter Try.func18, Try.ntmps18
  go_wp2_with fail
  (with_reducible refine (new_any 1 w (by omega) (by omega)).mono ?_); rintro e w1 ⟨ga, gb, rfl, ha, hga, hgb, hb⟩
  obtain ⟨m0, hm0⟩ : ∃ m0 : List Int, m0 = List.replicate ((1 : Int).toNat * 64) 0 := ⟨_, rfl⟩
  rw [← hm0] at ha
  have hl : m0.length = 64 := by rw [hm0]; simp
  have hl1 : 64 ≤ m0.length := by omega
  have hl2 : m0.length ≤ 64 := by omega
  have HA := Sh.mk ha
  have HB := Sh.mk hb
  clear ha hb hm0 hl
  go_wp2_with fail
  (with_reducible refine (len_any ga gb m0 _ HA.out).mono ?_); rintro e w' ⟨rfl, rfl⟩
  go_wp2_with fail
  (with_reducible refine (pages_any ga gb m0 _ HA.out).mono ?_); rintro e w' ⟨rfl, rfl⟩
  go_wp2_with fail
  (with_reducible refine (store_in ga gb m0 3 7 _ HA.out (by omega) (by omega)).mono ?_); rintro e w2 ⟨rfl, h5, h6⟩
  have H5 := Sh.mk h5
  have H6 := Sh.mk h6
  have hl3 : ((3 : Int)) < ((m0.set (3 : Int).toNat 7).length : Int) := by simp; omega
  have hv : rd0 (m0.set (3 : Int).toNat 7) (3 : Int).toNat = 7 := by rw [rd0_set]; simp; omega
  clear h5 h6
  go_wp2_with fail
  (with_reducible refine (load_in ga gb _ 3 _ H5.out (by omega) hl3).mono ?_); rintro e w' ⟨rfl, rfl⟩
  rw [hv]
  clear hv
  go_wp2
  go_ret
  exact ⟨rfl, HB.out.trans (H6.out.toBelow HB.out.size (by simp; exact hgb))⟩
end Go.Proofs.Ytncmebefgklpjaa
