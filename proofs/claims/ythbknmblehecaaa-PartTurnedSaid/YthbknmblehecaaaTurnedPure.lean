/- PartTurned in plain lists: a row of pieces with one turned is not whole. No statement is proved here. -/
import Derived.Test.YthbknmblehecaaaSumsPure
namespace Go.Proofs.Ythbknmblehecaaa.Pure
open Go.RowKit Go.Proofs.Ythbknmblehecaaa.Pr Go.Proofs.YthbknmblehecaaaW.PrintWords Go.Proofs.YthbknmblehecaaaW.PrintLast Go.Proofs.YthbknmblehecaaaW.PrintMore
set_option linter.unusedVariables false
set_option linter.unusedSimpArgs false

/-- Words; places. -/
def s1 : List Pq → Int
  | [] => 0
  | x :: l => x.f1 + s1 l
def q2 : List Pq → Int
  | [] => 0
  | x :: l => (2 * (x.f1 * x.f0) + (x.f1 * x.f1 - x.f1)) + q2 l
theorem s1_append (a b : List Pq) : s1 (a ++ b) = s1 a + s1 b := by
  induction a with
  | nil => simp [s1]
  | cons x l ih => simp only [List.cons_append, s1, ih]; omega
theorem q2_append (a b : List Pq) : q2 (a ++ b) = q2 a + q2 b := by
  induction a with
  | nil => simp [q2]
  | cons x l ih => simp only [List.cons_append, q2, ih]; omega
theorem s1_perm {a b : List Pq} (h : a.Perm b) : s1 a = s1 b := by
  induction h with
  | nil => rfl
  | cons x _ ih => simp only [s1, ih]
  | swap x y l => simp only [s1]; omega
  | trans _ _ h1 h2 => exact h1.trans h2
theorem q2_perm {a b : List Pq} (h : a.Perm b) : q2 a = q2 b := by
  induction h with
  | nil => rfl
  | cons x _ ih => simp only [q2, ih]
  | swap x y l => simp only [q2]; omega
  | trans _ _ h1 h2 => exact h1.trans h2
theorem wh_s1 (w : Int) (l : List Pq) : ∀ e, wh l e w = true → e + s1 l = w := by
  induction l with
  | nil => intro e h; simp [wh] at h; simp [s1]; omega
  | cons x l ih =>
    intro e h
    simp only [wh, Bool.and_eq_true, decide_eq_true_eq] at h
    have := ih _ h.2
    simp only [s1]
    omega
theorem sq_add (a b : Int) : (a + b) * (a + b) = a * a + 2 * (b * a) + b * b := by
  rw [Int.add_mul, Int.mul_add, Int.mul_add, Int.mul_comm a b]; omega
theorem wh_q2 (w : Int) (l : List Pq) : ∀ e, wh l e w = true → q2 l + (e * e - e) = w * w - w := by
  induction l with
  | nil => intro e h; simp [wh] at h; rw [h.1]; simp [q2]
  | cons x l ih =>
    intro e h
    simp only [wh, Bool.and_eq_true, decide_eq_true_eq] at h
    have h1 := ih _ h.2
    have h2 := sq_add e x.f1
    have h3 := h.1.2
    simp only [q2]
    rw [h3]
    omega
/-- The pieces, the k-th turned. -/
def stp (L : List Pq) (k : Nat) (d h : Int) (i : Nat) : List (Int × Pq) :=
  if i = k then
    if h % 4 = 0 then [] else if h % 4 = 1 then [(1 + (i : Int) % 7, ⟨(L.getD i ⟨0, 0⟩).f0 + d, (L.getD i ⟨0, 0⟩).f1⟩)]
    else if h % 4 = 2 then [(1 + (i : Int) % 7, ⟨(L.getD i ⟨0, 0⟩).f0, (L.getD i ⟨0, 0⟩).f1 + d⟩)] else [(2, L.getD i ⟨0, 0⟩), (1 + (i : Int) % 7, L.getD i ⟨0, 0⟩)]
  else [(1 + (i : Int) % 7, L.getD i ⟨0, 0⟩)]
def tb (L : List Pq) (k : Nat) (d h : Int) : Nat → List (Int × Pq)
  | 0 => []
  | i + 1 => tb L k d h i ++ stp L k d h i
theorem tb_in (L : List Pq) (k : Nat) (d h : Int) (i : Nat) : ∀ p ∈ tb L k d h i, 1 ≤ p.1 ∧ p.1 ≤ 7 := by
  induction i with
  | zero => intro p hp; simp [tb] at hp
  | succ i ih =>
    intro p hp
    rw [tb, List.mem_append] at hp
    rcases hp with hp | hp
    · exact ih p hp
    · unfold stp at hp
      split at hp
      · split at hp
        · simp at hp
        · split at hp
          · simp at hp; subst hp; dsimp only; omega
          · split at hp
            · simp at hp; subst hp; dsimp only; omega
            · simp at hp; rcases hp with hp | hp <;> subst hp <;> dsimp only <;> omega
      · simp at hp; subst hp; dsimp only; omega
theorem tb_len (L : List Pq) (k : Nat) (d h : Int) (i : Nat) : (tb L k d h i).length ≤ 2 * i := by
  induction i with
  | zero => simp [tb]
  | succ i ih =>
    rw [tb, List.length_append]
    have : (stp L k d h i).length ≤ 2 := by
      unfold stp
      split
      · split
        · simp
        · split
          · simp
          · split <;> simp
      · simp
    omega
theorem take_snoc (L : List Pq) (i : Nat) (hi : i < L.length) : L.take (i + 1) = L.take i ++ [L.getD i ⟨0, 0⟩] := by
  rw [List.take_add_one, List.getElem?_eq_getElem hi, List.getD_eq_getElem?_getD, List.getElem?_eq_getElem hi]; rfl
theorem tb_s1 (L : List Pq) (k : Nat) (d h : Int) (i : Nat) (hi : i ≤ L.length) : s1 ((tb L k d h i).map (·.2)) = s1 (L.take i) + (if k < i then (if h % 4 = 0 then -(L.getD k ⟨0, 0⟩).f1 else if h % 4 = 1 then 0 else if h % 4 = 2 then d else (L.getD k ⟨0, 0⟩).f1) else 0) := by
  induction i with
  | zero => simp [tb, s1]
  | succ i ih =>
    have hh := ih (by omega)
    rw [tb, List.map_append, s1_append, take_snoc L i (by omega), s1_append, hh]
    unfold stp
    by_cases e : i = k
    · subst e
      rw [if_pos rfl, if_neg (show ¬ i < i by omega), if_pos (show i < i + 1 by omega)]
      by_cases c0 : h % 4 = 0
      · rw [if_pos c0, if_pos c0]; simp only [s1, List.map_nil]; omega
      · rw [if_neg c0, if_neg c0]
        by_cases c1 : h % 4 = 1
        · rw [if_pos c1, if_pos c1]; simp only [s1, List.map_nil, List.map_cons]; omega
        · rw [if_neg c1, if_neg c1]
          by_cases c2 : h % 4 = 2
          · rw [if_pos c2, if_pos c2]; simp only [s1, List.map_nil, List.map_cons]; omega
          · rw [if_neg c2, if_neg c2]; simp only [s1, List.map_nil, List.map_cons]; omega
    · rw [if_neg e]
      simp only [s1, List.map_nil, List.map_cons]
      by_cases c : k < i
      · rw [if_pos c, if_pos (show k < i + 1 by omega)]; omega
      · rw [if_neg c, if_neg (show ¬ k < i + 1 by omega)]; omega
theorem tb_q2 (L : List Pq) (k : Nat) (d h : Int) (h1 : h % 4 = 1) (i : Nat) (hi : i ≤ L.length) : q2 ((tb L k d h i).map (·.2)) = q2 (L.take i) + (if k < i then 2 * ((L.getD k ⟨0, 0⟩).f1 * d) else 0) := by
  induction i with
  | zero => simp [tb, q2]
  | succ i ih =>
    have hh := ih (by omega)
    rw [tb, List.map_append, q2_append, take_snoc L i (by omega), q2_append, hh]
    unfold stp
    by_cases e : i = k
    · subst e
      rw [if_pos rfl, if_neg (show ¬ h % 4 = 0 by omega), if_pos h1, if_neg (show ¬ i < i by omega), if_pos (show i < i + 1 by omega)]
      simp only [q2, List.map_nil, List.map_cons, Int.mul_add]; omega
    · rw [if_neg e]
      simp only [q2, List.map_nil, List.map_cons]
      by_cases c : k < i
      · rw [if_pos c, if_pos (show k < i + 1 by omega)]; omega
      · rw [if_neg c, if_neg (show ¬ k < i + 1 by omega)]; omega
/-- Turned, they are not whole. -/
theorem turned_no (L : List Pq) (k : Nat) (d h w : Int) (hw : wh L 0 w = true) (hk : k < L.length) (hd : d ≠ 0) : wh (sortP (flatS (tb L k d h L.length))) 0 w = false := by
  cases hq : wh (sortP (flatS (tb L k d h L.length))) 0 w with
  | false => rfl
  | true =>
    exfalso
    have hp := (sortP_perm (flatS (tb L k d h L.length))).trans (flatS_perm _ (tb_in L k d h _))
    have a1 := wh_s1 w _ 0 hq
    have a2 := wh_q2 w _ 0 hq
    have b1 := wh_s1 w _ 0 hw
    have b2 := wh_q2 w _ 0 hw
    have hx := (wh_at w L 0 hw k (L.getD k ⟨0, 0⟩) (by rw [List.getD_eq_getElem?_getD, List.getElem?_eq_getElem hk]; rfl)).2.1
    have hx2 := may_bd hx
    rw [s1_perm hp, tb_s1 L k d h _ (Nat.le_refl _), if_pos hk, List.take_length] at a1
    rw [q2_perm hp] at a2
    by_cases c0 : h % 4 = 0
    · rw [if_pos c0] at a1; omega
    · rw [if_neg c0] at a1
      by_cases c1 : h % 4 = 1
      · rw [tb_q2 L k d h c1 _ (Nat.le_refl _), if_pos hk, List.take_length] at a2
        have hz : (L.getD k ⟨0, 0⟩).f1 * d = 0 := by omega
        rcases Int.mul_eq_zero.1 hz with hz | hz
        · omega
        · exact hd hz
      · rw [if_neg c1] at a1
        by_cases c2 : h % 4 = 2
        · rw [if_pos c2] at a1; omega
        · rw [if_neg c2] at a1; omega
end Go.Proofs.Ythbknmblehecaaa.Pure
