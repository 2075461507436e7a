/- Deeds with times by numbers: what the statements make. No statement is proved here. -/
import Derived.Test.YtpddppipjlagfaaLinFits
import Derived.Test.YtpddppipjlagfaaDeeds
namespace Go.Proofs.Ytpddppipjlagfaa.Pure
set_option linter.unusedVariables false
set_option linter.unusedSimpArgs false
open Go.RowKit Go.Proofs.YtpddppipjlagfaaW.PrintWords Go.Proofs.YtpddppipjlagfaaW.PrintLast Go.Proofs.YtpddppipjlagfaaW.PrintMore Pr

def oOp (t : List Int) (d : De) (i : Nat) : Oq :=
  if 2 * i + 1 < t.length then ⟨d, mx 0 (20 * (i : Int) - rd t ((2 * i : Nat) : Int) % 70), if rd t ((2 * i + 1 : Nat) : Int) ≥ 240 then -1 else 20 * (i : Int) + 1 + rd t ((2 * i + 1 : Nat) : Int) % 70⟩
  else ⟨d, 20 * (i : Int), 20 * (i : Int) + 1⟩
structure okO (d : De) (i : Nat) (x : Oq) : Prop where
  e0 : x.f0 = d
  b0 : 0 ≤ x.f1
  b1 : x.f1 ≤ 20 * (i : Int)
  e1 : x.f2 = -1 ∨ (20 * (i : Int) + 1 ≤ x.f2 ∧ x.f2 ≤ 20 * (i : Int) + 70)
theorem oOp_ok {t : List Int} (ht : ∀ x ∈ t, (Lit.int .u8 x).wf = true) (d : De) (i : Nat) : okO d i (oOp t d i) := by
  have h1 := rd_u8 ht ((2 * i : Nat) : Int)
  have h2 := rd_u8 ht ((2 * i + 1 : Nat) : Int)
  unfold oOp
  split
  · refine ⟨rfl, ?_, ?_, ?_⟩
    · dsimp only
      unfold mx
      split <;> omega
    · dsimp only
      unfold mx
      split <;> omega
    · dsimp only
      split
      · exact .inl rfl
      · exact .inr ⟨by omega, by omega⟩
  · exact ⟨rfl, by dsimp only; omega, by dsimp only; omega, .inr ⟨by dsimp only; omega, by dsimp only; omega⟩⟩
theorem oOp_nil (d : De) (i : Nat) : oOp [] d i = ⟨d, 20 * (i : Int), 20 * (i : Int) + 1⟩ := by
  unfold oOp
  rw [if_neg (by simp)]
/-- The first deeds with their times. -/
def opsU (t : List Int) (D : List De) : Nat → List Oq
  | 0 => []
  | i + 1 => opsU t D i ++ [oOp t (rd_T38 D (i : Int)) i]
theorem opsU_len (t : List Int) (D : List De) : ∀ i, (opsU t D i).length = i
  | 0 => rfl
  | i + 1 => by rw [opsU, List.length_append, opsU_len t D i]; rfl
theorem opsU_at (t : List Int) (D : List De) : ∀ n i, i < n → opL (opsU t D n) (i : Int) = oOp t (rd_T38 D (i : Int)) i
  | 0, i, h => absurd h (by omega)
  | n + 1, i, h => by
    unfold opL rd_T40
    rw [Int.toNat_natCast, opsU, List.getD_eq_getElem?_getD]
    by_cases c : i = n
    · subst c
      rw [List.getElem?_append_right (by rw [opsU_len]; exact Nat.le_refl _), opsU_len, Nat.sub_self]
      rfl
    · rw [List.getElem?_append_left (by rw [opsU_len]; omega)]
      have ih := opsU_at t D n i (by omega)
      unfold opL rd_T40 at ih
      rw [Int.toNat_natCast, List.getD_eq_getElem?_getD] at ih
      exact ih
def cut8 (n : Nat) : Nat := if n < 8 then n else 8
/-- What Ops answers. -/
def opsF (m : Int) (ns t : List Int) : List Oq := opsU t (deedsG m [] ns 0) (cut8 (deedsG m [] ns 0).length)
theorem opsF_len (m : Int) (ns t : List Int) : (opsF m ns t).length ≤ 8 := by
  unfold opsF
  rw [opsU_len]
  unfold cut8
  split <;> omega
theorem opsF_at (m : Int) (ns t : List Int) (ht : ∀ x ∈ t, (Lit.int .u8 x).wf = true) (i : Nat) (hi : i < (opsF m ns t).length) : okO (rd_T38 (deedsG m [] ns 0) (i : Int)) i (opL (opsF m ns t) (i : Int)) := by
  unfold opsF at hi ⊢
  rw [opsU_len] at hi
  rw [opsU_at _ _ _ _ hi]
  exact oOp_ok ht _ _
end Go.Proofs.Ytpddppipjlagfaa.Pure
