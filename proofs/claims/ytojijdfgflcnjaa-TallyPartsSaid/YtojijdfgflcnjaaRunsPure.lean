/- Runs of pages as lists: which lists are right, what is taken, what is put. No statement is proved here. -/
import Derived.Test.YtojijdfgflcnjaaPure
namespace Go.Proofs.Ytojijdfgflcnjaa.Pure
open Go.RowKit Go.Proofs.Ytojijdfgflcnjaa.Pr Go.Proofs.YtojijdfgflcnjaaW.PrintWords Go.Proofs.YtojijdfgflcnjaaW.PrintLast Go.Proofs.YtojijdfgflcnjaaW.PrintMore
set_option linter.unusedVariables false
set_option linter.unusedSimpArgs false
abbrev Rn := S61
instance : DecidableEq Rn := fun x y => decidable_of_iff (x.f0 = y.f0 ∧ x.f1 = y.f1) (by cases x; cases y; simp)

/-- A list is right: each run behind page e, and behind the one ahead, with a page between them; none beyond page p. -/
def rt (p : Int) : Int → List Rn → Prop
  | _, [] => True
  | e, x :: l => e < x.f0 ∧ 1 ≤ x.f1 ∧ x.f0 + x.f1 ≤ p ∧ rt p (x.f0 + x.f1) l
/-- Where the last run ends. -/
def lastE : Int → List Rn → Int
  | e, [] => e
  | _, x :: l => lastE (x.f0 + x.f1) l
theorem rt_mono {p e e' : Int} (h : e' ≤ e) {l : List Rn} (hr : rt p e l) : rt p e' l := by
  cases l with
  | nil => trivial
  | cons x l => exact ⟨by have := hr.1; omega, hr.2⟩
theorem rt_append {p e : Int} (l m : List Rn) : rt p e (l ++ m) ↔ rt p e l ∧ rt p (lastE e l) m := by
  induction l generalizing e with
  | nil => simp [rt, lastE]
  | cons x l ih => simp only [List.cons_append, rt, lastE, ih, and_assoc]
theorem lastE_append (e : Int) (l m : List Rn) : lastE e (l ++ m) = lastE (lastE e l) m := by
  induction l generalizing e with
  | nil => rfl
  | cons x l ih => simp only [List.cons_append, lastE, ih]
theorem rt_len {p e : Int} {l : List Rn} (h : rt p e l) : l = [] ∨ e + 2 * (l.length : Int) ≤ p := by
  induction l generalizing e with
  | nil => exact .inl rfl
  | cons x l ih =>
    right
    obtain ⟨h1, h2, h3, h4⟩ := h
    rcases ih h4 with rfl | h5
    · simp; omega
    · simp only [List.length_cons]; omega
theorem rt_mem {p e : Int} {l : List Rn} (h : rt p e l) {x : Rn} (hx : x ∈ l) : e < x.f0 ∧ 1 ≤ x.f1 ∧ x.f0 + x.f1 ≤ p := by
  induction l generalizing e with
  | nil => cases hx
  | cons y l ih =>
    obtain ⟨h1, h2, h3, h4⟩ := h
    rcases List.mem_cons.1 hx with rfl | hx
    · exact ⟨h1, h2, h3⟩
    · have := ih h4 hx
      omega
theorem lastE_le {p e : Int} {l : List Rn} (h : rt p e l) (he : e ≤ p) : e ≤ lastE e l ∧ lastE e l ≤ p := by
  induction l generalizing e with
  | nil => exact ⟨Int.le_refl _, he⟩
  | cons x l ih =>
    obtain ⟨h1, h2, h3, h4⟩ := h
    have := ih h4 h3
    simp only [lastE]
    omega

/-- What is taken: pages of the first run that has them. -/
def tk (n : Int) : List Rn → List Rn
  | [] => []
  | x :: l => if n ≤ x.f1 then (if x.f1 = n then l else ⟨x.f0 + n, x.f1 - n⟩ :: l) else x :: tk n l
/-- Where it is taken. -/
def tat (n : Int) : List Rn → Int
  | [] => 0
  | x :: l => if n ≤ x.f1 then x.f0 else tat n l
def fits (n : Int) (l : List Rn) : Bool := l.any fun x => decide (n ≤ x.f1)
/-- A run joined to the list behind it. -/
def joinL (x : Rn) : List Rn → List Rn
  | [] => [x]
  | y :: m => if x.f0 + x.f1 = y.f0 then ⟨x.f0, x.f1 + y.f1⟩ :: m else x :: y :: m
theorem joinL_cons (x y : Rn) (m : List Rn) : joinL x (y :: m) = if x.f0 + x.f1 = y.f0 then ⟨x.f0, x.f1 + y.f1⟩ :: m else x :: y :: m := rfl
/-- What is put; none: a page is there already. -/
def pt (a b : Int) : List Rn → Option (List Rn)
  | [] => some [⟨a, b⟩]
  | x :: l => if a + b ≤ x.f0 then some (joinL ⟨a, b⟩ (x :: l)) else if a < x.f0 + x.f1 then none else (pt a b l).map (joinL x)
/-- A page is in a run of the list. -/
def pg (l : List Rn) (q : Int) : Prop := ∃ x ∈ l, x.f0 ≤ q ∧ q < x.f0 + x.f1
theorem pg_nil (q : Int) : ¬ pg [] q := by rintro ⟨x, hx, _⟩; cases hx
theorem pg_cons (x : Rn) (l : List Rn) (q : Int) : pg (x :: l) q ↔ (x.f0 ≤ q ∧ q < x.f0 + x.f1) ∨ pg l q := by
  constructor
  · rintro ⟨y, hy, h⟩
    rcases List.mem_cons.1 hy with rfl | hy
    · exact .inl h
    · exact .inr ⟨y, hy, h⟩
  · rintro (h | ⟨y, hy, h⟩)
    · exact ⟨x, List.mem_cons_self, h⟩
    · exact ⟨y, List.mem_cons_of_mem _ hy, h⟩
theorem pg_lo {p e : Int} {l : List Rn} (h : rt p e l) {q : Int} (hq : pg l q) : e < q ∧ q < p := by
  obtain ⟨x, hx, h1, h2⟩ := hq
  have := rt_mem h hx
  omega
theorem tk_rt {p e n : Int} (h1 : 1 ≤ n) {l : List Rn} (h : rt p e l) : rt p e (tk n l) := by
  induction l generalizing e with
  | nil => trivial
  | cons x l ih =>
    obtain ⟨a1, a2, a3, a4⟩ := h
    unfold tk
    split
    · split
      · exact rt_mono (by omega) a4
      · exact ⟨by simp; omega, by simp; omega, by simp; omega, by
          have e1 : (x.f0 + n) + (x.f1 - n) = x.f0 + x.f1 := by omega
          show rt p ((x.f0 + n) + (x.f1 - n)) l
          rw [e1]; exact a4⟩
    · exact ⟨a1, a2, a3, ih a4⟩
theorem tat_range {p e n : Int} {l : List Rn} (h : rt p e l) (hf : fits n l = true) (hn : 1 ≤ n) : e < tat n l ∧ tat n l + n ≤ p := by
  induction l generalizing e with
  | nil => simp [fits] at hf
  | cons x l ih =>
    obtain ⟨a1, a2, a3, a4⟩ := h
    unfold tat
    by_cases c : n ≤ x.f1
    · rw [if_pos c]; omega
    · rw [if_neg c]
      have := ih a4 (by simpa [fits, c] using hf)
      omega
theorem tk_pg {p e n : Int} (hn : 1 ≤ n) {l : List Rn} (h : rt p e l) (hf : fits n l = true) (q : Int) : (pg (tk n l) q ↔ pg l q ∧ ¬ (tat n l ≤ q ∧ q < tat n l + n)) ∧ (tat n l ≤ q ∧ q < tat n l + n → pg l q) := by
  induction l generalizing e with
  | nil => simp [fits] at hf
  | cons x l ih =>
    obtain ⟨a1, a2, a3, a4⟩ := h
    unfold tk tat
    by_cases c : n ≤ x.f1
    · rw [if_pos c, if_pos c]
      have hlo := @pg_lo p (x.f0 + x.f1) l a4 q
      by_cases d : x.f1 = n
      · rw [if_pos d]
        simp only [pg_cons]
        constructor
        · constructor
          · intro hq
            have := hlo hq
            exact ⟨.inr hq, by omega⟩
          · rintro ⟨hq | hq, hn⟩
            · omega
            · exact hq
        · intro hq; left; omega
      · rw [if_neg d]
        simp only [pg_cons]
        constructor
        · constructor
          · rintro (hq | hq)
            · exact ⟨.inl (by omega), by omega⟩
            · have := hlo hq
              exact ⟨.inr hq, by omega⟩
          · rintro ⟨hq | hq, hn⟩
            · left; omega
            · exact .inr hq
        · intro hq; left; omega
    · rw [if_neg c, if_neg c]
      have hf' : fits n l = true := by simpa [fits, c] using hf
      obtain ⟨i1, i2⟩ := ih a4 hf'
      have ht := tat_range a4 hf' hn
      simp only [pg_cons, i1]
      constructor
      · constructor
        · rintro (hq | ⟨hq, hn⟩)
          · exact ⟨.inl hq, by omega⟩
          · exact ⟨.inr hq, hn⟩
        · rintro ⟨hq | hq, hn⟩
          · exact .inl hq
          · exact .inr ⟨hq, hn⟩
      · intro hq; exact .inr (i2 hq)
theorem joinL_rt {p e : Int} {x : Rn} {m : List Rn} (h1 : e < x.f0) (h2 : 1 ≤ x.f1) (h3 : x.f0 + x.f1 ≤ p) (hm : rt p (x.f0 + x.f1 - 1) m) : rt p e (joinL x m) := by
  cases m with
  | nil => exact ⟨h1, h2, h3, trivial⟩
  | cons y m =>
    obtain ⟨b1, b2, b3, b4⟩ := hm
    rw [joinL_cons]
    split
    · next c =>
      refine ⟨h1, by simp; omega, by simp; omega, ?_⟩
      show rt p (x.f0 + (x.f1 + y.f1)) m
      rw [show x.f0 + (x.f1 + y.f1) = y.f0 + y.f1 by omega]; exact b4
    · exact ⟨h1, h2, h3, by omega, b2, b3, b4⟩
theorem joinL_pg {x : Rn} {m : List Rn} (h2 : 1 ≤ x.f1) (hm : ∀ y ∈ m, 1 ≤ y.f1) (q : Int) : pg (joinL x m) q ↔ (x.f0 ≤ q ∧ q < x.f0 + x.f1) ∨ pg m q := by
  cases m with
  | nil => simp [joinL, pg_cons]
  | cons y m =>
    have := hm y List.mem_cons_self
    rw [joinL_cons]
    split
    · simp only [pg_cons]
      constructor
      · rintro (h | h)
        · by_cases d : q < x.f0 + x.f1
          · left; omega
          · right; left; omega
        · exact .inr (.inr h)
      · rintro (h | h | h)
        · left; omega
        · left; omega
        · exact .inr h
    · simp only [pg_cons]
/-- What is put is right; its pages. -/
theorem pt_rt {p e a b : Int} (ha : e < a) (hb : 1 ≤ b) (hp : a + b ≤ p) {l m : List Rn} (h : rt p e l) (hm : pt a b l = some m) : rt p e m := by
  induction l generalizing e m with
  | nil =>
    simp only [pt, Option.some.injEq] at hm
    subst hm
    exact ⟨ha, hb, hp, trivial⟩
  | cons x l ih =>
    have h0 := h
    obtain ⟨a1, a2, a3, a4⟩ := h
    unfold pt at hm
    by_cases c : a + b ≤ x.f0
    · rw [if_pos c] at hm
      simp only [Option.some.injEq] at hm
      subst hm
      exact joinL_rt ha hb hp ⟨by simp; omega, a2, a3, a4⟩
    · rw [if_neg c] at hm
      by_cases d : a < x.f0 + x.f1
      · rw [if_pos d] at hm; cases hm
      · rw [if_neg d] at hm
        cases hq : pt a b l with
        | none => rw [hq] at hm; cases hm
        | some m' =>
          rw [hq] at hm
          simp only [Option.map_some, Option.some.injEq] at hm
          subst hm
          have := ih (e := x.f0 + x.f1 - 1) (by omega) (rt_mono (by omega) a4) hq
          exact joinL_rt a1 a2 a3 this
theorem pt_pg {p e a b : Int} (hb : 1 ≤ b) {l m : List Rn} (h : rt p e l) (hm : pt a b l = some m) (q : Int) : (pg m q ↔ pg l q ∨ (a ≤ q ∧ q < a + b)) ∧ (a ≤ q ∧ q < a + b → ¬ pg l q) ∧ (∀ y ∈ m, 1 ≤ y.f1) := by
  induction l generalizing e m with
  | nil =>
    simp only [pt, Option.some.injEq] at hm
    subst hm
    refine ⟨?_, fun _ => pg_nil q, ?_⟩
    · simp only [pg_cons]
      constructor
      · rintro (h | h)
        · exact .inr h
        · exact absurd h (pg_nil q)
      · rintro (h | h)
        · exact absurd h (pg_nil q)
        · exact .inl h
    · intro y hy
      rcases List.mem_cons.1 hy with rfl | hy
      · exact hb
      · cases hy
  | cons x l ih =>
    have h0 := h
    obtain ⟨a1, a2, a3, a4⟩ := h
    have hmem : ∀ y ∈ x :: l, 1 ≤ y.f1 := fun y hy => (rt_mem h0 hy).2.1
    unfold pt at hm
    by_cases c : a + b ≤ x.f0
    · rw [if_pos c] at hm
      simp only [Option.some.injEq] at hm
      subst hm
      have hj := joinL_pg (x := ⟨a, b⟩) (m := x :: l) hb hmem q
      refine ⟨?_, ?_, ?_⟩
      · rw [hj]; exact Or.comm
      · intro hq hpq
        have := pg_lo (show rt p (x.f0 - 1) (x :: l) from ⟨by omega, a2, a3, a4⟩) hpq
        omega
      · intro y hy
        rw [joinL_cons] at hy
        split at hy
        · rcases List.mem_cons.1 hy with rfl | hy
          · simp; omega
          · exact hmem y (List.mem_cons_of_mem _ hy)
        · rcases List.mem_cons.1 hy with rfl | hy
          · exact hb
          · exact hmem y hy
    · rw [if_neg c] at hm
      by_cases d : a < x.f0 + x.f1
      · rw [if_pos d] at hm; cases hm
      · rw [if_neg d] at hm
        cases hq : pt a b l with
        | none => rw [hq] at hm; cases hm
        | some m' =>
          rw [hq] at hm
          simp only [Option.map_some, Option.some.injEq] at hm
          subst hm
          obtain ⟨i1, i2, i3⟩ := ih a4 hq
          have hj := joinL_pg (x := x) (m := m') a2 i3 q
          refine ⟨?_, ?_, ?_⟩
          · rw [hj, i1, pg_cons]
            exact or_assoc.symm
          · intro hq hpq
            rw [pg_cons] at hpq
            rcases hpq with h | h
            · omega
            · exact i2 hq h
          · intro y hy
            cases m' with
            | nil =>
              rcases List.mem_cons.1 hy with rfl | hy
              · exact a2
              · cases hy
            | cons z m' =>
              have hz := i3 z List.mem_cons_self
              rw [joinL_cons] at hy
              split at hy
              · rcases List.mem_cons.1 hy with rfl | hy
                · simp; omega
                · exact i3 y (List.mem_cons_of_mem _ hy)
              · rcases List.mem_cons.1 hy with rfl | hy
                · exact a2
                · exact i3 y hy
/-- A put is refused just where a page is there already. -/
theorem pt_none {p e a b : Int} (hb : 1 ≤ b) {l : List Rn} (h : rt p e l) (hm : pt a b l = none) : ∃ q, a ≤ q ∧ q < a + b ∧ pg l q := by
  induction l generalizing e with
  | nil => simp [pt] at hm
  | cons x l ih =>
    obtain ⟨a1, a2, a3, a4⟩ := h
    unfold pt at hm
    by_cases c : a + b ≤ x.f0
    · rw [if_pos c] at hm; cases hm
    · rw [if_neg c] at hm
      by_cases d : a < x.f0 + x.f1
      · by_cases f : a ≤ x.f0
        · exact ⟨x.f0, f, by omega, (pg_cons x l _).2 (.inl (by omega))⟩
        · exact ⟨a, by omega, by omega, (pg_cons x l _).2 (.inl (by omega))⟩
      · rw [if_neg d] at hm
        cases hq : pt a b l with
        | none =>
          obtain ⟨q, h1, h2, h3⟩ := ih a4 hq
          exact ⟨q, h1, h2, (pg_cons x l _).2 (.inr h3)⟩
        | some m => rw [hq] at hm; cases hm
theorem pt_has {p e a b : Int} (hb : 1 ≤ b) {l : List Rn} (h : rt p e l) {q : Int} (h1 : a ≤ q) (h2 : q < a + b) (hq : pg l q) : pt a b l = none := by
  cases hm : pt a b l with
  | none => rfl
  | some m => exact absurd hq ((pt_pg hb h hm q).2.1 ⟨h1, h2⟩)
/-- What is taken, and put back, leaves the list. -/
theorem pt_tk {p e n : Int} (hn : 1 ≤ n) {l : List Rn} (h : rt p e l) (hf : fits n l = true) : pt (tat n l) n (tk n l) = some l := by
  induction l generalizing e with
  | nil => simp [fits] at hf
  | cons x l ih =>
    obtain ⟨a1, a2, a3, a4⟩ := h
    unfold tk tat
    by_cases c : n ≤ x.f1
    · rw [if_pos c, if_pos c]
      by_cases d : x.f1 = n
      · rw [if_pos d]
        cases l with
        | nil => subst d; rfl
        | cons y l =>
          have hy := a4.1
          unfold pt
          rw [if_pos (by omega)]
          rw [joinL_cons]
          rw [if_neg (by simp; omega)]
          subst d; rfl
      · rw [if_neg d]
        unfold pt
        rw [if_pos (by simp)]
        rw [joinL_cons, if_pos rfl]
        simp only [Option.some.injEq, List.cons.injEq, and_true]
        cases x
        simp
        omega
    · rw [if_neg c, if_neg c]
      have hf' : fits n l = true := by simpa [fits, c] using hf
      have ht := tat_range a4 hf' hn
      unfold pt
      rw [if_neg (by omega), if_neg (by omega), ih a4 hf']
      cases l with
      | nil => simp [fits] at hf'
      | cons y l =>
        have hy := a4.1
        simp only [Option.map_some, joinL]
        rw [if_neg (by omega)]
/-- How many pages there are. -/
def tot : List Rn → Int
  | [] => 0
  | x :: l => x.f1 + tot l
theorem tot_le {p e : Int} {l : List Rn} (h : rt p e l) (he : e ≤ p) : 0 ≤ tot l ∧ tot l ≤ p - e := by
  induction l generalizing e with
  | nil => simp [tot]; omega
  | cons x l ih =>
    obtain ⟨a1, a2, a3, a4⟩ := h
    have := ih a4 a3
    simp only [tot]; omega
theorem tot_tk {n : Int} {l : List Rn} (hf : fits n l = true) : tot (tk n l) = tot l - n := by
  induction l with
  | nil => simp [fits] at hf
  | cons x l ih =>
    unfold tk
    by_cases c : n ≤ x.f1
    · rw [if_pos c]
      by_cases d : x.f1 = n
      · rw [if_pos d]; simp only [tot]; omega
      · rw [if_neg d]; simp only [tot]; omega
    · rw [if_neg c]
      have := ih (by simpa [fits, c] using hf)
      simp only [tot]; omega
/-- How many the longest one has. -/
def most : List Rn → Int → Int
  | [], s => s
  | x :: l, s => most l (mx s x.f1)
theorem most_ge (l : List Rn) (s : Int) : s ≤ most l s ∧ ∀ x ∈ l, x.f1 ≤ most l s := by
  induction l generalizing s with
  | nil => simp [most]
  | cons x l ih =>
    have h1 := ih (mx s x.f1)
    have hm : s ≤ mx s x.f1 ∧ x.f1 ≤ mx s x.f1 := by unfold mx; omega
    simp only [most]
    refine ⟨by omega, fun y hy => ?_⟩
    rcases List.mem_cons.1 hy with rfl | hy
    · omega
    · exact h1.2 y hy
theorem most_is (l : List Rn) (s : Int) : most l s = s ∨ ∃ x ∈ l, most l s = x.f1 := by
  induction l generalizing s with
  | nil => exact .inl rfl
  | cons x l ih =>
    simp only [most]
    rcases ih (mx s x.f1) with h | ⟨y, hy, h⟩
    · by_cases c : s < x.f1
      · right; exact ⟨x, List.mem_cons_self, by rw [h]; unfold mx; rw [if_pos c]⟩
      · left; rw [h]; unfold mx; rw [if_neg c]
    · right; exact ⟨y, List.mem_cons_of_mem _ hy, h⟩
theorem fits_most {n : Int} (hn : 1 ≤ n) (l : List Rn) : fits n l = decide (n ≤ most l 0) := by
  by_cases c : n ≤ most l 0
  · rw [decide_eq_true c]
    rcases most_is l 0 with h | ⟨x, hx, h⟩
    · omega
    · exact List.any_eq_true.2 ⟨x, hx, by simp; omega⟩
  · rw [decide_eq_false c]
    refine List.any_eq_false.2 fun x hx => ?_
    have := (most_ge l 0).2 x hx
    simp; omega
end Go.Proofs.Ytojijdfgflcnjaa.Pure
