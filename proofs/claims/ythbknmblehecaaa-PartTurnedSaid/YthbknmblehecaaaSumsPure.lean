/- Sums over pieces, whatever their order; pieces laid into lists anew. No statement is proved here. -/
import Derived.Test.YthbknmblehecaaaPartBase
import Derived.Test.YthbknmblehecaaaMadePure
namespace Go.Proofs.Ythbknmblehecaaa.Pure
open Go.RowKit Go.Proofs.Ythbknmblehecaaa.Pr Go.Proofs.YthbknmblehecaaaW.PrintWords Go.Proofs.YthbknmblehecaaaW.PrintLast Go.Proofs.YthbknmblehecaaaW.PrintMore
set_option linter.unusedVariables false
set_option linter.unusedSimpArgs false

theorem insP_perm (x : Pq) (l : List Pq) : (insP x l).Perm (x :: l) := by
  induction l with
  | nil => exact List.Perm.refl _
  | cons y l ih =>
    unfold insP
    split
    · exact List.Perm.refl _
    · exact (List.Perm.cons y ih).trans (List.Perm.swap x y l)
theorem sortF_perm (l : List Pq) : ∀ o : List Pq, (sortF l o).Perm (o ++ l) := by
  induction l with
  | nil => intro o; simp [sortF]
  | cons x l ih =>
    intro o
    have h := ih (insP x o)
    have h2 : (insP x o ++ l).Perm (o ++ x :: l) := ((insP_perm x o).append_right l).trans (List.perm_middle.symm)
    exact h.trans h2
theorem sortP_perm (l : List Pq) : (sortP l).Perm l := by simpa [sortP] using sortF_perm l []
theorem ws_append (a b : List Pq) : ws (a ++ b) = ws a + ws b := by
  induction a with
  | nil => simp [ws]
  | cons x l ih => simp only [List.cons_append, ws, ih]; omega
theorem ws_perm {a b : List Pq} (h : a.Perm b) : ws a = ws b := by
  induction h with
  | nil => rfl
  | cons x _ ih => simp only [ws, ih]
  | swap x y l => simp only [ws]; omega
  | trans _ _ h1 h2 => exact h1.trans h2
theorem ws_flat (l0 l1 l2 l3 l4 l5 l6 : List Pq) : ws (flat7 l0 l1 l2 l3 l4 l5 l6) = ws l0 + ws l1 + ws l2 + ws l3 + ws l4 + ws l5 + ws l6 := by
  simp only [flat7, List.flatten_cons, List.flatten_nil, ws_append, ws]; omega
/-- What is whole: its words, its places. -/
theorem wh_sum (w : Int) (l : List Pq) : ∀ e, wh l e w = true → e + ws l = w ∧ w ≤ 2147483648 := by
  induction l with
  | nil => intro e h; simp [wh] at h; simp [ws]; omega
  | cons x l ih =>
    intro e h
    simp only [wh, Bool.and_eq_true, decide_eq_true_eq] at h
    obtain ⟨⟨h1, h2⟩, h3⟩ := h
    have := ih _ h3
    simp only [ws, h1, if_true]
    omega
theorem wh_at (w : Int) (l : List Pq) : ∀ e, wh l e w = true → ∀ (i : Nat) (x : Pq), l[i]? = some x → x.f0 = e + ws (l.take i) ∧ mayB x = true ∧ ws (l.take (i + 1)) = ws (l.take i) + x.f1 := by
  induction l with
  | nil => intro e h i x hx; simp at hx
  | cons y l ih =>
    intro e h i x hx
    simp only [wh, Bool.and_eq_true, decide_eq_true_eq] at h
    obtain ⟨⟨h1, h2⟩, h3⟩ := h
    cases i with
    | zero => simp at hx; subst hx; simp [ws, h1, h2]
    | succ i =>
      have := ih _ h3 i x (by simpa using hx)
      obtain ⟨g1, g2, g3⟩ := this
      simp only [List.take_succ_cons, ws, h1, if_true] at g3 ⊢
      exact ⟨by omega, g2, by omega⟩
theorem wh_lt (w : Int) (l : List Pq) : ∀ e, wh l e w = true → (∀ x ∈ l, e ≤ x.f0) ∧ l.Pairwise fun x y => x.f0 < y.f0 := by
  induction l with
  | nil => intro e _; exact ⟨by simp, List.Pairwise.nil⟩
  | cons x l ih =>
    intro e h
    simp only [wh, Bool.and_eq_true, decide_eq_true_eq] at h
    obtain ⟨⟨h1, h2⟩, h3⟩ := h
    have hb := may_bd h1
    obtain ⟨g1, g2⟩ := ih _ h3
    refine ⟨fun y hy => ?_, List.pairwise_cons.2 ⟨fun y hy => ?_, g2⟩⟩
    · rcases List.mem_cons.1 hy with rfl | hy
      · omega
      · have := g1 y hy; omega
    · have := g1 y hy; omega
theorem fk_one (k : Int) (l : List Pq) (h : l.Pairwise fun x y => x.f0 < y.f0) : fk k l = [] ∨ ∃ x, fk k l = [x] := by
  induction l with
  | nil => exact .inl rfl
  | cons x l ih =>
    obtain ⟨h1, h2⟩ := List.pairwise_cons.1 h
    by_cases c : x.f0 = k
    · right
      exact ⟨x, by rw [fk_cons_eq _ c, fk_nil_of (fun y hy => by have := h1 y hy; omega)]⟩
    · rw [fk_cons_ne _ c]; exact ih h2
/-- Pieces of unlike places have one order. -/
theorem sortP_of_perm {l r : List Pq} (h : r.Perm l) (hl : l.Pairwise fun x y => x.f0 < y.f0) : sortP r = l := by
  refine (sortP_eq ⟨hl.imp (fun h => Int.le_of_lt h), fun k => ?_⟩).symm
  have hp : (fk k r).Perm (fk k l) := h.filter _
  rcases fk_one k l hl with e | ⟨x, e⟩
  · rw [e] at hp ⊢; exact (List.perm_nil.1 hp).symm
  · rw [e] at hp ⊢; exact (List.perm_singleton.1 hp).symm
theorem flatS_perm (Q : List (Int × Pq)) (h : ∀ p ∈ Q, 1 ≤ p.1 ∧ p.1 ≤ 7) : (flatS Q).Perm (Q.map (·.2)) := by
  induction Q with
  | nil => exact List.Perm.refl _
  | cons p Q ih =>
    have hi := ih (fun q hq => h q (by simp [hq]))
    have hp := h p (by simp)
    refine List.Perm.trans ?_ (List.Perm.cons p.2 hi)
    have hk : p.1 = 1 ∨ p.1 = 2 ∨ p.1 = 3 ∨ p.1 = 4 ∨ p.1 = 5 ∨ p.1 = 6 ∨ p.1 = 7 := by omega
    unfold flatS
    simp only [List.flatten_cons, List.flatten_nil, sel_cons, List.append_nil]
    rcases hk with e | e | e | e | e | e | e
    · simp [e]
    · first | (simp [e]; done) | simpa [e] using List.perm_middle (a := p.2) (l₁ := sel 1 Q) (l₂ := sel 2 Q ++ (sel 3 Q ++ (sel 4 Q ++ (sel 5 Q ++ (sel 6 Q ++ sel 7 Q)))))
    · first | (simp [e]; done) | simpa [e] using List.perm_middle (a := p.2) (l₁ := sel 1 Q ++ sel 2 Q) (l₂ := sel 3 Q ++ (sel 4 Q ++ (sel 5 Q ++ (sel 6 Q ++ sel 7 Q))))
    · first | (simp [e]; done) | simpa [e] using List.perm_middle (a := p.2) (l₁ := sel 1 Q ++ (sel 2 Q ++ sel 3 Q)) (l₂ := sel 4 Q ++ (sel 5 Q ++ (sel 6 Q ++ sel 7 Q)))
    · first | (simp [e]; done) | simpa [e] using List.perm_middle (a := p.2) (l₁ := sel 1 Q ++ (sel 2 Q ++ (sel 3 Q ++ sel 4 Q))) (l₂ := sel 5 Q ++ (sel 6 Q ++ sel 7 Q))
    · first | (simp [e]; done) | simpa [e] using List.perm_middle (a := p.2) (l₁ := sel 1 Q ++ (sel 2 Q ++ (sel 3 Q ++ (sel 4 Q ++ sel 5 Q)))) (l₂ := sel 6 Q ++ sel 7 Q)
    · first | (simp [e]; done) | simpa [e] using List.perm_middle (a := p.2) (l₁ := sel 1 Q ++ (sel 2 Q ++ (sel 3 Q ++ (sel 4 Q ++ (sel 5 Q ++ sel 6 Q))))) (l₂ := sel 7 Q)
/-- The pieces laid anew, the last one first, each into some list. -/
def bk (L : List Pq) : Nat → List (Int × Pq)
  | 0 => []
  | i + 1 => bk L i ++ [(1 + ((L.length - 1 - i : Nat) : Int) % 7, L.getD (L.length - 1 - i) z58)]
theorem bk_in (L : List Pq) (i : Nat) : ∀ p ∈ bk L i, 1 ≤ p.1 ∧ p.1 ≤ 7 := by
  induction i with
  | zero => intro p hp; cases hp
  | succ i ih =>
    intro p hp
    rcases List.mem_append.1 hp with hp | hp
    · exact ih p hp
    · simp at hp; subst hp; dsimp only; omega
theorem bk_len (L : List Pq) (i : Nat) : (bk L i).length = i := by
  induction i with
  | zero => rfl
  | succ i ih => simp [bk, ih]
theorem bk_map (L : List Pq) (i : Nat) (h : i ≤ L.length) : (bk L i).map (·.2) = (L.drop (L.length - i)).reverse := by
  induction i with
  | zero => simp [bk]
  | succ i ih =>
    have hlt : L.length - 1 - i < L.length := by omega
    have e : L.drop (L.length - (i + 1)) = L[L.length - 1 - i] :: L.drop (L.length - i) := by
      rw [show L.length - (i + 1) = L.length - 1 - i by omega, List.drop_eq_getElem_cons hlt, show L.length - 1 - i + 1 = L.length - i by omega]
    rw [e, bk, List.map_append, ih (by omega), List.reverse_cons]
    simp [List.getD_eq_getElem?_getD, List.getElem?_eq_getElem hlt]
theorem bk_sort {L : List Pq} {w : Int} (h : wh L 0 w = true) : sortP (flatS (bk L L.length)) = L := by
  refine sortP_of_perm ?_ (wh_lt w L 0 h).2
  refine (flatS_perm _ (bk_in L _)).trans ?_
  rw [bk_map L _ (Nat.le_refl _), Nat.sub_self, List.drop_zero]
  exact List.reverse_perm L
end Go.Proofs.Ythbknmblehecaaa.Pure
