/- Plain words on lists. No statement is proved here. -/
namespace Go.Proofs.Ythbknmblehecaaa
/-- Where the first element is of which p holds, counted from k on; -1: there is none. -/
def idxB {α : Type} (p : α → Bool) : List α → Int → Int
  | [], _ => -1
  | x :: l, k => if p x = true then k else idxB p l (k + 1)
theorem idxB_drop {α : Type} (p : α → Bool) (l : List α) (k : Nat) (h : k < l.length) (x : α) (hx : x = l[k]) : idxB p (l.drop k) k = if p x = true then (k : Int) else idxB p (l.drop (k + 1)) ((k : Int) + 1) := by
  rw [List.drop_eq_getElem_cons h, hx]
  rfl
theorem idxB_range {α : Type} (p : α → Bool) (l : List α) (k : Int) (h0 : 0 ≤ k) : (idxB p l k = -1 ∧ l.any p = false) ∨ (k ≤ idxB p l k ∧ idxB p l k < k + l.length ∧ l.any p = true) := by
  induction l generalizing k with
  | nil => exact .inl ⟨rfl, rfl⟩
  | cons x l ih =>
    unfold idxB
    by_cases c : p x = true
    · rw [if_pos c]
      right
      exact ⟨by omega, by simp only [List.length_cons]; omega, by simp [c]⟩
    · rw [if_neg c]
      have c' : p x = false := by simpa using c
      rcases ih (k + 1) (by omega) with ⟨h1, h2⟩ | ⟨h1, h2, h3⟩
      · exact .inl ⟨h1, by simp [c', h2]⟩
      · right
        exact ⟨by omega, by simp only [List.length_cons]; omega, by simp [c', h3]⟩
theorem idxB_any {α : Type} (p : α → Bool) (l : List α) : decide (0 ≤ idxB p l 0) = l.any p := by
  rcases idxB_range p l 0 (Int.le_refl _) with ⟨h1, h2⟩ | ⟨h1, _, h2⟩
  · rw [h1, h2]; rfl
  · rw [h2, decide_eq_true h1]
/-- What idxB tells. -/
theorem idxB_some {α : Type} (p : α → Bool) (l : List α) (k : Nat) (h : 0 ≤ idxB p l k) : ∃ j : Nat, idxB p l k = ((k + j : Nat) : Int) ∧ ∃ hj : j < l.length, p l[j] = true ∧ ∀ i (hi : i < j), p (l[i]'(Nat.lt_trans hi hj)) = false := by
  induction l generalizing k with
  | nil => simp [idxB] at h
  | cons x l ih =>
    unfold idxB at h ⊢
    by_cases c : p x = true
    · rw [if_pos c]
      exact ⟨0, by simp, by simp, by simpa using c, fun i hi => absurd hi (Nat.not_lt_zero _)⟩
    · rw [if_neg c] at h ⊢
      have e : ((k : Int) + 1) = ((k + 1 : Nat) : Int) := by omega
      rw [e] at h ⊢
      obtain ⟨j, h1, hj, h2, h3⟩ := ih (k + 1) h
      refine ⟨j + 1, by rw [h1]; congr 1; omega, by simpa using hj, by simpa using h2, fun i hi => ?_⟩
      cases i with
      | zero => simpa using c
      | succ i => simpa using h3 i (by omega)
theorem idxB_none {α : Type} (p : α → Bool) (l : List α) (k : Int) (hk : 0 ≤ k) (h : idxB p l k < 0) : ∀ x ∈ l, p x = false := by
  rcases idxB_range p l k hk with ⟨_, h2⟩ | ⟨h1, _⟩
  · exact fun x hx => by simpa using (List.any_eq_false.1 h2) x hx
  · omega
/-- Binary search: where the first element stands that is not below, in a list that is in order. -/
def bsI {α : Type} (cf : α → Int) (l : List α) (i j : Nat) : Nat :=
  if h : i < j then
    (if (match l[(i + j) / 2]? with | some x => cf x | none => 0) < 0 then bsI cf l ((i + j) / 2 + 1) j else bsI cf l i ((i + j) / 2))
  else i
termination_by j - i
decreasing_by all_goals omega
def bsB {α : Type} (cf : α → Int) (l : List α) : Bool := match l[bsI cf l 0 l.length]? with
  | some x => decide (cf x = 0)
  | none => false
theorem bsI_le {α : Type} (cf : α → Int) (l : List α) (i j : Nat) (h : i ≤ j) : i ≤ bsI cf l i j ∧ bsI cf l i j ≤ j := by
  induction i, j using bsI.induct (cf := cf) (l := l) with
  | case1 i j h1 h2 ih => rw [bsI, dif_pos h1, if_pos h2]; have := ih (by omega); omega
  | case2 i j h1 h2 ih => rw [bsI, dif_pos h1, if_neg h2]; have := ih (by omega); omega
  | case3 i j h1 => rw [bsI, dif_neg h1]; omega
theorem bsI_step {α : Type} (cf : α → Int) (l : List α) (i j : Nat) (h : i < j) (x : α) (hx : l[(i + j) / 2]? = some x) : bsI cf l i j = if cf x < 0 then bsI cf l ((i + j) / 2 + 1) j else bsI cf l i ((i + j) / 2) := by
  rw [bsI, dif_pos h, hx]
theorem bsI_end {α : Type} (cf : α → Int) (l : List α) (i : Nat) : bsI cf l i i = i := by
  rw [bsI, dif_neg (Nat.lt_irrefl _)]
end Go.Proofs.Ythbknmblehecaaa
