/- A list begun elsewhere; what Ops answers. No statement is proved here. -/
import Derived.Test.YtpddppipjlagfaaPrx35
import Derived.Test.YtpddppipjlagfaaPrx33
import Derived.Test.YtpddppipjlagfaaLinEx
import Derived.Test.YtpddppipjlagfaaLinTimes
namespace Go.Proofs.Ytpddppipjlagfaa.Pure
set_option linter.unusedVariables false
set_option linter.unusedSimpArgs false
open Go.RowKit Go.Proofs.YtpddppipjlagfaaW.PrintWords Go.Proofs.YtpddppipjlagfaaW.PrintLast Go.Proofs.YtpddppipjlagfaaW.PrintMore Pr Go.Proofs.Ytpddppipjlagfaa.Dfs

theorem ops_f (m : Int) (ns t : List Int) (hm : 0 ≤ m ∧ m ≤ 16384) (h1 : ns.length ≤ 140737488351232) (h2 : ∀ x ∈ ns, (Lit.int .u8 x).wf = true) (ht : ∀ x ∈ t, (Lit.int .u8 x).wf = true) (k : Nat) : rickyardlaw27_Ops.f k m ns t = some (opsF m ns t) := if_pos ⟨hm, h1, List.all_eq_true.2 h2, List.all_eq_true.2 ht⟩
/-- Times that are right are no hindrance. -/
theorem ok_badB {d : De} {i : Nat} {x : Oq} (h : okO d i x) (hi : i < 8) : badB x = false := by
  obtain ⟨_, h1, h2, h3⟩ := h
  unfold badB
  rw [decide_eq_false (by omega), decide_eq_false (by omega)]
  rcases h3 with h3 | h3
  · rw [decide_eq_false (by omega)]
    rfl
  · rw [decide_eq_true (by omega), decide_eq_false (by omega), decide_eq_false (by omega)]
    rfl
theorem opL_mem {l : List Oq} {x : Oq} (h : x ∈ l) : ∃ i : Nat, i < l.length ∧ opL l (i : Int) = x := by
  obtain ⟨i, hi, e⟩ := List.getElem_of_mem h
  refine ⟨i, hi, ?_⟩
  unfold opL rd_T40
  rw [Int.toNat_natCast, List.getD_eq_getElem?_getD, List.getElem?_eq_getElem hi, Option.getD_some, e]
theorem opsF_may (m : Int) (ns t : List Int) (ht : ∀ x ∈ t, (Lit.int .u8 x).wf = true) : ∀ x ∈ opsF m ns t, badB x = false := fun x hx => by
  obtain ⟨i, hi, rfl⟩ := opL_mem hx
  exact ok_badB (opsF_at m ns t ht i hi) (by have := opsF_len m ns t; omega)
theorem mayB_all {l : List Oq} : mayB l = true ↔ ∀ x ∈ l, badB x = false := by
  unfold mayB
  simp
/-- A list begun elsewhere. -/
def turnF (l : List Oq) (a : Int) : List Oq := if l.length = 0 then l else l.drop (a % l.length).toNat ++ l.take (a % l.length).toNat
theorem turn_f (l : List Oq) (a : Int) (hl : l.length ≤ 1000) (ha : 0 ≤ a ∧ a ≤ 255) : rickyardlaw27_Turned.f l a = some (turnF l a) := by
  have w : wrap64 a = a := w64 (by omega) (by omega)
  unfold rickyardlaw27_Turned.f turnF
  by_cases c : l.length = 0
  · rw [if_pos (by omega), if_pos c]
  · have t : Int.tmod a (l.length : Int) = a % (l.length : Int) := tmod_emod ha.1
    have h1 : 0 ≤ a % (l.length : Int) := Int.emod_nonneg _ (by omega)
    have h2 : a % (l.length : Int) < (l.length : Int) := Int.emod_lt_of_pos _ (by omega)
    rw [if_neg (by omega), if_neg c, w, t]
    simp only [Option.bind_some]
    rw [if_pos h1, if_pos (by omega), if_pos (by simp; omega), if_pos (by simp; omega)]
    rfl
theorem turnF_len (l : List Oq) (a : Int) : (turnF l a).length = l.length := by
  unfold turnF
  split
  · rfl
  · next c =>
    have h1 : 0 ≤ a % (l.length : Int) := Int.emod_nonneg _ (by omega)
    have h2 : a % (l.length : Int) < (l.length : Int) := Int.emod_lt_of_pos _ (by omega)
    rw [List.length_append, List.length_drop, List.length_take]
    omega
theorem m_of {a : Int} (h : (Lit.int .u16 a).wf = true) : ∃ m, Int.tmod (wrap64 a) 2049 = m ∧ 0 ≤ m ∧ m ≤ 2048 := by
  have u := u16_of h
  refine ⟨a % 2049, ?_, by omega, by omega⟩
  rw [w64 (by omega) (by omega)]
  exact tmod_emod u.1
end Go.Proofs.Ytpddppipjlagfaa.Pure
