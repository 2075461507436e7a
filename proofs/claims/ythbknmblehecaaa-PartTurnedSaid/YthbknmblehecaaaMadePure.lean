/- Words cut into pieces by numbers, in plain lists: what they are, in order; which list any word is of; sums. No statement is proved here. -/
import Derived.Test.YthbknmblehecaaaPure
import Derived.Test.YthbknmblehecaaaSortPure
import Derived.Test.YthbknmblehecaaaPrx34
import Derived.Test.YthbknmblehecaaaPrx35
namespace Go.Proofs.Ythbknmblehecaaa.Pure
open Go.RowKit Go.Proofs.Ythbknmblehecaaa.Pr Go.Proofs.YthbknmblehecaaaW.PrintWords Go.Proofs.YthbknmblehecaaaW.PrintLast Go.Proofs.YthbknmblehecaaaW.PrintMore
set_option linter.unusedVariables false
set_option linter.unusedSimpArgs false

/-- So many pieces from a place of the numbers on, each with the number of its list. -/
def pcsN (ns : List Int) : Nat → Nat → Int → List (Int × Pq)
  | 0, _, _ => []
  | m + 1, t, at_ => (1 + rd ns ((2 * t + 1 : Nat) : Int) % 7, ⟨at_, 1 + rd ns ((2 * t : Nat) : Int) % 40⟩) :: pcsN ns m (t + 1) (at_ + (1 + rd ns ((2 * t : Nat) : Int) % 40))
/-- Those of one list. -/
def sel (j : Int) (P : List (Int × Pq)) : List Pq := (P.filter fun p => p.1 == j).map (·.2)
theorem sel_append (j : Int) (P Q : List (Int × Pq)) : sel j (P ++ Q) = sel j P ++ sel j Q := by simp [sel]
theorem sel_cons (j : Int) (p : Int × Pq) (P : List (Int × Pq)) : sel j (p :: P) = (if p.1 = j then [p.2] else []) ++ sel j P := by
  by_cases c : p.1 = j
  · simp [sel, c]
  · simp [sel, c]
theorem sel_len (j : Int) (P : List (Int × Pq)) : (sel j P).length ≤ P.length := by
  unfold sel; rw [List.length_map]; exact List.length_filter_le _ _
/-- Each begins where the one ahead of it ends. -/
def cont : List (Int × Pq) → Int → Prop
  | [], _ => True
  | p :: P, e => p.2.f0 = e ∧ (1 ≤ p.2.f1 ∧ p.2.f1 ≤ 40) ∧ (1 ≤ p.1 ∧ p.1 ≤ 7) ∧ cont P (e + p.2.f1)
def endP : List (Int × Pq) → Int → Int
  | [], e => e
  | p :: P, e => endP P (e + p.2.f1)
theorem endP_append (P Q : List (Int × Pq)) : ∀ e, endP (P ++ Q) e = endP Q (endP P e) := by
  induction P with
  | nil => intro e; rfl
  | cons p P ih => intro e; exact ih _
theorem cont_append (P Q : List (Int × Pq)) : ∀ e, cont (P ++ Q) e ↔ cont P e ∧ cont Q (endP P e) := by
  induction P with
  | nil => intro e; simp [cont, endP]
  | cons p P ih => intro e; simp only [List.cons_append, cont, endP, ih]; constructor <;> (rintro ⟨h1, h2⟩; simp_all)
theorem endP_ge (P : List (Int × Pq)) : ∀ e, cont P e → e ≤ endP P e ∧ endP P e ≤ e + 40 * P.length := by
  induction P with
  | nil => intro e _; simp [endP]
  | cons p P ih => intro e h; obtain ⟨h1, h2, h3, h4⟩ := h; have := ih _ h4; simp only [endP, List.length_cons]; omega
theorem cont_ge (P : List (Int × Pq)) : ∀ e, cont P e → ∀ p ∈ P, e ≤ p.2.f0 ∧ p.2.f0 + p.2.f1 ≤ endP P e ∧ (1 ≤ p.2.f1 ∧ p.2.f1 ≤ 40) ∧ (1 ≤ p.1 ∧ p.1 ≤ 7) := by
  induction P with
  | nil => intro e _ p hp; cases hp
  | cons q P ih =>
    intro e h p hp
    obtain ⟨h1, h2, h3, h4⟩ := h
    have hg := endP_ge P _ h4
    rcases List.mem_cons.1 hp with rfl | hp
    · simp only [endP]; omega
    · have := ih _ h4 p hp; simp only [endP]; omega
theorem pcsN_cont (ns : List Int) (h8 : ∀ i : Int, 0 ≤ rd ns i) (m : Nat) : ∀ t at_, cont (pcsN ns m t at_) at_ := by
  induction m with
  | zero => intro t at_; trivial
  | succ m ih =>
    intro t at_
    have h1 := h8 ((2 * t : Nat) : Int)
    have h2 := h8 ((2 * t + 1 : Nat) : Int)
    exact ⟨rfl, ⟨by dsimp only; omega, by dsimp only; omega⟩, ⟨by dsimp only; omega, by dsimp only; omega⟩, ih _ _⟩
theorem pcsN_len (ns : List Int) (m : Nat) : ∀ t at_, (pcsN ns m t at_).length = m := by
  induction m with
  | zero => intro t at_; rfl
  | succ m ih => intro t at_; simp [pcsN, ih]
theorem pcsN_head (ns : List Int) (m t : Nat) (at_ : Int) (h : 0 < m) : pcsN ns m t at_ = (1 + rd ns ((2 * t + 1 : Nat) : Int) % 7, ⟨at_, 1 + rd ns ((2 * t : Nat) : Int) % 40⟩) :: pcsN ns (m - 1) (t + 1) (at_ + (1 + rd ns ((2 * t : Nat) : Int) % 40)) := by
  obtain ⟨m, rfl⟩ : ∃ q, m = q + 1 := ⟨m - 1, by omega⟩
  rfl
/-! in order -/
theorem cont_srt (P : List (Int × Pq)) : ∀ e, cont P e → Srt (P.map (·.2)) := by
  induction P with
  | nil => intro e _; exact List.Pairwise.nil
  | cons p P ih =>
    intro e h
    obtain ⟨h1, h2, h3, h4⟩ := h
    refine List.pairwise_cons.2 ⟨fun y hy => ?_, ih _ h4⟩
    obtain ⟨q, hq, rfl⟩ := List.mem_map.1 hy
    have := cont_ge P _ h4 q hq
    show p.2.f0 ≤ q.2.f0
    omega
def flatS (P : List (Int × Pq)) : List Pq := ([sel 1 P, sel 2 P, sel 3 P, sel 4 P, sel 5 P, sel 6 P, sel 7 P] : List (List Pq)).flatten
theorem fk_none (k : Int) (j : Int) (P : List (Int × Pq)) (h : ∀ p ∈ P, p.2.f0 ≠ k) : fk k (sel j P) = [] := by
  refine fk_nil_of (fun x hx => ?_)
  unfold sel at hx
  obtain ⟨p, hp, rfl⟩ := List.mem_map.1 hx
  exact h p (List.mem_filter.1 hp).1
theorem flatS_fk (k : Int) (P : List (Int × Pq)) : ∀ e, cont P e → fk k (flatS P) = fk k (P.map (·.2)) := by
  induction P with
  | nil => intro e _; rfl
  | cons p P ih =>
    intro e h
    obtain ⟨h1, h2, h3, h4⟩ := h
    have hi := ih _ h4
    by_cases c : p.2.f0 = k
    · have hno : ∀ q ∈ P, q.2.f0 ≠ k := fun q hq => by have := cont_ge P _ h4 q hq; omega
      have hm : fk k (P.map (·.2)) = [] := fk_nil_of (fun x hx => by obtain ⟨q, hq, rfl⟩ := List.mem_map.1 hx; exact hno q hq)
      rw [List.map_cons, fk_cons_eq _ c, hm]
      unfold flatS
      simp only [List.flatten_cons, List.flatten_nil, sel_cons, fk_append, fk_none k _ P hno, List.append_nil]
      have hk : p.1 = 1 ∨ p.1 = 2 ∨ p.1 = 3 ∨ p.1 = 4 ∨ p.1 = 5 ∨ p.1 = 6 ∨ p.1 = 7 := by omega
      have hx : fk k [p.2] = [p.2] := by rw [fk_cons_eq _ c]; rfl
      rcases hk with e | e | e | e | e | e | e <;> simp [e, fk, c]
    · rw [List.map_cons, fk_cons_ne _ c, ← hi]
      unfold flatS
      have hx : ∀ b : Prop, ∀ _ : Decidable b, fk k (if b then [p.2] else []) = [] := fun b _ => by
        split
        · rw [fk_cons_ne _ c]; rfl
        · rfl
      simp only [List.flatten_cons, List.flatten_nil, sel_cons, fk_append, hx, List.nil_append]
theorem flatS_sort {P : List (Int × Pq)} {e : Int} (h : cont P e) : sortP (flatS P) = P.map (·.2) :=
  (sortP_eq ⟨cont_srt P e h, fun k => (flatS_fk k P e h).symm⟩).symm
theorem flatS_len (P : List (Int × Pq)) (h : ∀ p ∈ P, 1 ≤ p.1 ∧ p.1 ≤ 7) : (flatS P).length = P.length := by
  induction P with
  | nil => rfl
  | cons p P ih =>
    have hi := ih (fun q hq => h q (by simp [hq]))
    have hp := h p (by simp)
    unfold flatS at hi ⊢
    simp only [List.flatten_cons, List.flatten_nil, sel_cons, List.length_append, List.length_nil, List.length_cons] at hi ⊢
    have hk : p.1 = 1 ∨ p.1 = 2 ∨ p.1 = 3 ∨ p.1 = 4 ∨ p.1 = 5 ∨ p.1 = 6 ∨ p.1 = 7 := by omega
    rcases hk with e | e | e | e | e | e | e <;> simp [e] <;> omega
/-! which list a word is of -/
theorem put_sel (Q : List (Int × Pq)) (hQ : Q.length ≤ 100000) (j : Int) (hj : 1 ≤ j ∧ j ≤ 7) (a n : Int) :
    rickyardlaw26_put.f (sel 1 Q) (sel 2 Q) (sel 3 Q) (sel 4 Q) (sel 5 Q) (sel 6 Q) (sel 7 Q) j a n = some (sel 1 (Q ++ [(j, ⟨a, n⟩)]), sel 2 (Q ++ [(j, ⟨a, n⟩)]), sel 3 (Q ++ [(j, ⟨a, n⟩)]), sel 4 (Q ++ [(j, ⟨a, n⟩)]), sel 5 (Q ++ [(j, ⟨a, n⟩)]), sel 6 (Q ++ [(j, ⟨a, n⟩)]), sel 7 (Q ++ [(j, ⟨a, n⟩)])) := by
  have b : ∀ i : Int, (sel i Q).length < 8796093022208 := fun i => by have := sel_len i Q; omega
  have hv : j = 1 ∨ j = 2 ∨ j = 3 ∨ j = 4 ∨ j = 5 ∨ j = 6 ∨ j = 7 := by omega
  unfold rickyardlaw26_put.f
  have sn : ∀ i : Int, sel i [] = [] := fun i => rfl
  rcases hv with rfl | rfl | rfl | rfl | rfl | rfl | rfl <;> simp [b, sel_append, sel_cons, sn]
theorem made_l0 (ns : List Int) (h8 : ∀ i : Int, 0 ≤ rd ns i ∧ rd ns i ≤ 255) (hl : ns.length < 4611686018427387904) (m : Nat) : ∀ (t : Nat) (at_ : Int) (Q : List (Int × Pq)), t + m = min (ns.length / 2) 100 → 0 ≤ at_ → at_ ≤ 40 * t → Q.length = t →
    Ev (fun k => rickyardlaw26_Made.l0 k ns at_ ((2 * t : Nat) : Int) (sel 1 Q) (sel 2 Q) (sel 3 Q) (sel 4 Q) (sel 5 Q) (sel 6 Q) (sel 7 Q))
      (sel 1 (Q ++ pcsN ns m t at_), sel 2 (Q ++ pcsN ns m t at_), sel 3 (Q ++ pcsN ns m t at_), sel 4 (Q ++ pcsN ns m t at_), sel 5 (Q ++ pcsN ns m t at_), sel 6 (Q ++ pcsN ns m t at_), sel 7 (Q ++ pcsN ns m t at_), endP (pcsN ns m t at_) at_) := by
  induction m with
  | zero =>
    intro t at_ Q ht h0 h1 hQ
    refine Ev.eq (Ev.step1 (r := (sel 1 Q, sel 2 Q, sel 3 Q, sel 4 Q, sel 5 Q, sel 6 Q, sel 7 Q, at_)) (fun k => ?_)) (by simp [pcsN, endP])
    simp only [rickyardlaw26_Made.l0]
    rw [w64 (n := ((2 * t : Nat) : Int) + 1) (by omega) (by omega)]
    by_cases c : ((2 * t : Nat) : Int) + 1 < (ns.length : Int)
    · rw [if_pos c, if_neg (by omega)]
    · rw [if_neg c]
  | succ m ih =>
    intro t at_ Q ht h0 h1 hQ
    obtain ⟨u, hu⟩ : ∃ u, u = rd ns ((2 * t : Nat) : Int) := ⟨_, rfl⟩
    obtain ⟨v, hv⟩ : ∃ v, v = rd ns ((2 * t + 1 : Nat) : Int) := ⟨_, rfl⟩
    have hub := h8 ((2 * t : Nat) : Int)
    have hvb := h8 ((2 * t + 1 : Nat) : Int)
    rw [← hu] at hub
    rw [← hv] at hvb
    have hi := ih (t + 1) (at_ + (1 + u % 40)) (Q ++ [(1 + v % 7, ⟨at_, 1 + u % 40⟩)]) (by omega) (by omega) (by omega) (by simp [hQ])
    have e1 : wrap64 (((2 * t : Nat) : Int) + 1) = ((2 * t + 1 : Nat) : Int) := by rw [w64 (by omega) (by omega)]; omega
    have e2 : wrap64 (((2 * t : Nat) : Int) + 2) = ((2 * (t + 1) : Nat) : Int) := by rw [w64 (by omega) (by omega)]; omega
    have hp := put_sel Q (by omega) (1 + v % 7) (by omega) at_ (1 + u % 40)
    have hpc : pcsN ns (m + 1) t at_ = (1 + v % 7, ⟨at_, 1 + u % 40⟩) :: pcsN ns m (t + 1) (at_ + (1 + u % 40)) := by rw [pcsN, hu, hv]
    refine Ev.eq (Ev.step (fun k => ?_) hi) (by rw [hpc]; simp [endP])
    simp only [rickyardlaw26_Made.l0]
    have t1 : wrap64 u = u := w64 (by omega) (by omega)
    have t2 : wrap64 v = v := w64 (by omega) (by omega)
    have t3 : Int.tmod u 40 = u % 40 := Int.tmod_eq_emod_of_nonneg (by omega)
    have t4 : Int.tmod v 7 = v % 7 := Int.tmod_eq_emod_of_nonneg (by omega)
    have t5 : wrap64 (1 + u % 40) = 1 + u % 40 := w64 (by omega) (by omega)
    have t6 : wrap64 (1 + v % 7) = 1 + v % 7 := w64 (by omega) (by omega)
    have t7 : wrap64 (at_ + (1 + u % 40)) = at_ + (1 + u % 40) := w64 (by omega) (by omega)
    rw [e1, if_pos (by omega), if_pos (by omega), if_pos (by omega), if_pos (by omega), if_pos (by omega), e2, ← hu, ← hv, t1, t2, t3, t4, t5, t6, hp, Option.bind_some, t7]
/-- The pieces that so many numbers make. -/
def pcs (ns : List Int) : List (Int × Pq) := pcsN ns (min (ns.length / 2) 100) 0 0
theorem made_ev (ns : List Int) (h8 : ∀ i : Int, 0 ≤ rd ns i ∧ rd ns i ≤ 255) (hl : ns.length < 4611686018427387904) :
    Ev (fun k => rickyardlaw26_Made.f k ns) (sel 1 (pcs ns), sel 2 (pcs ns), sel 3 (pcs ns), sel 4 (pcs ns), sel 5 (pcs ns), sel 6 (pcs ns), sel 7 (pcs ns), endP (pcs ns) 0) := by
  have := made_l0 ns h8 hl (min (ns.length / 2) 100) 0 0 [] (by omega) (by omega) (by omega) rfl
  exact Ev.congr (fun k => by rfl) this
end Go.Proofs.Ythbknmblehecaaa.Pure
