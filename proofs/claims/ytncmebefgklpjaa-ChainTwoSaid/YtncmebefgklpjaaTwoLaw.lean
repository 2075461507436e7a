/- Two chains in one arena: plain law. No statement is proved here. -/
import Derived.Test.YtncmebefgklpjaaPlaces
namespace Go.Proofs.Ytncmebefgklpjaa
set_option linter.unusedVariables false
set_option linter.unusedSimpArgs false
open Go.RowKit Go.Proofs.YtncmebefgklpjaaW.PrintWords Go.Proofs.YtncmebefgklpjaaW.PrintLast Go.Proofs.YtncmebefgklpjaaW.PrintMore

/-- The chain that begins with h tells these places, the last one first. -/
def chn (m : List Int) : List Int → Int → Prop
  | [], h => h = 0
  | x :: R, h => h = x + 1 ∧ chn m R (rd0 m x.toNat)
theorem rd0_set_same (m : List Int) (i : Nat) (v : Int) (h : i < m.length) : rd0 (m.set i v) i = v := by
  unfold rd0
  rw [List.getD_eq_getElem?_getD, List.getElem?_set_self h]
  rfl
theorem rd0_set_far (m : List Int) (i j : Nat) (v : Int) (h : i ≠ j) : rd0 (m.set i v) j = rd0 m j := by
  unfold rd0
  rw [List.getD_eq_getElem?_getD, List.getD_eq_getElem?_getD, List.getElem?_set_ne h]
theorem chn_far (m : List Int) (x : Int) (v : Int) (hx : 0 ≤ x) : ∀ (R : List Int) (h : Int), (∀ y ∈ R, 0 ≤ y ∧ y ≠ x) → chn m R h → chn (m.set x.toNat v) R h
  | [], h, _, hc => hc
  | y :: R, h, hR, hc => by
    have h1 := hR y List.mem_cons_self
    refine ⟨hc.1, ?_⟩
    rw [rd0_set_far m x.toNat y.toNat v (by omega)]
    exact chn_far m x v hx R _ (fun z hz => hR z (List.mem_cons_of_mem _ hz)) hc.2
theorem chn_push (m : List Int) (x : Int) (R : List Int) (h : Int) (hx : 0 ≤ x ∧ x < (m.length : Int)) (hR : ∀ y ∈ R, 0 ≤ y ∧ y ≠ x) (hc : chn m R h) : chn (m.set x.toNat h) (x :: R) (x + 1) := by
  refine ⟨rfl, ?_⟩
  rw [rd0_set_same m x.toNat h (by omega)]
  exact chn_far m x h hx.1 R h hR hc
theorem chn_in (m : List Int) (n : Int) (hn : 0 ≤ n) : ∀ (R : List Int) (h : Int), (∀ y ∈ R, 0 ≤ y ∧ y < n) → chn m R h → 0 ≤ h ∧ h ≤ n
  | [], h, _, hc => by
    have : h = 0 := hc
    omega
  | y :: R, h, hR, hc => by
    have h1 := hR y List.mem_cons_self
    have := hc.1
    omega
theorem pushS_in (m : List Int) (h a : Int) (hh : 0 ≤ h ∧ h ≤ (m.length : Int)) (ha : 0 ≤ a ∧ a < (m.length : Int)) : pushS m h a = (m.set a.toNat h, a + 1, 0) := by
  unfold pushS
  rw [if_neg (by omega), if_neg (by omega)]
theorem popS_chn (m : List Int) (x : Int) (R : List Int) (h : Int) (hm : m.length ≤ 16384) (hx : 0 ≤ x ∧ x < (m.length : Int)) (hR : ∀ y ∈ R, 0 ≤ y ∧ y < (m.length : Int)) (hc : chn m (x :: R) h) : popS m h = (x, rd0 m x.toNat, 0) := by
  obtain ⟨rfl, h2⟩ := hc
  have h3 := chn_in m (m.length : Int) (by omega) R _ hR h2
  have e : (x + 1 - 1).toNat = x.toNat := by omega
  unfold popS
  rw [if_neg (by omega), if_neg (by omega), if_neg (by omega), e, if_neg (by omega)]
  rw [show x + 1 - 1 = x by omega, show wrap64 (rd0 m x.toNat) = rd0 m x.toNat by unfold wrap64; omega]
theorem walkS_chn (m : List Int) (hm : m.length ≤ 16384) : ∀ (R : List Int) (n : Nat) (h : Int) (out : List Int), (∀ y ∈ R, 0 ≤ y ∧ y < (m.length : Int)) → chn m R h → R.length ≤ n → walkS m n h out = (out ++ R, 0)
  | [], n, h, out, _, hc, _ => by
    have : h = 0 := hc
    subst this
    rw [walkS_zero, List.append_nil]
  | x :: R, 0, h, out, _, _, hl => by simp at hl
  | x :: R, n + 1, h, out, hR, hc, hl => by
    have hx := hR x List.mem_cons_self
    have hR2 : ∀ y ∈ R, 0 ≤ y ∧ y < (m.length : Int) := fun y hy => hR y (List.mem_cons_of_mem _ hy)
    have hp := popS_chn m x R h hm hx hR2 hc
    have h0 : h ≠ 0 := by have := hc.1; omega
    rw [walkS, if_neg h0, hp, if_pos rfl, walkS_chn m hm R n _ _ hR2 hc.2 (by simpa using hl), List.append_assoc]
    rfl
theorem walkT_chn (m : List Int) (hm : m.length ≤ 16384) (R : List Int) (h most : Int) (hR : ∀ y ∈ R, 0 ≤ y ∧ y < (m.length : Int)) (hc : chn m R h) (hl : R.length ≤ most.toNat) : walkT m h most = (R, 0) := by
  have := chn_in m (m.length : Int) (by omega) R h hR hc
  unfold walkT
  rw [if_neg (by omega), walkS_chn m hm R _ h [] hR hc hl, List.nil_append]
end Go.Proofs.Ytncmebefgklpjaa
