/- Stable order of pieces by their addresses: what it is, that there is one. No statement is proved here. -/
import Derived.Test.YthbknmblehecaaaPrx0
namespace Go.Proofs.Ythbknmblehecaaa.Pure
open Go.Proofs.Ythbknmblehecaaa.Pr
set_option linter.unusedVariables false
set_option linter.unusedSimpArgs false

abbrev Pq := S58
/-- Of rising addresses. -/
def Srt (l : List Pq) : Prop := l.Pairwise fun x y => x.f0 ≤ y.f0
def fk (k : Int) (l : List Pq) : List Pq := l.filter fun x => x.f0 == k
theorem fk_append (k : Int) (a b : List Pq) : fk k (a ++ b) = fk k a ++ fk k b := List.filter_append ..
theorem fk_cons_eq {k : Int} {x : Pq} (l : List Pq) (h : x.f0 = k) : fk k (x :: l) = x :: fk k l := by simp [fk, h]
theorem fk_cons_ne {k : Int} {x : Pq} (l : List Pq) (h : x.f0 ≠ k) : fk k (x :: l) = fk k l := by simp [fk, h]
theorem fk_nil_of {k : Int} {l : List Pq} (h : ∀ x ∈ l, x.f0 ≠ k) : fk k l = [] := by
  simp only [fk, List.filter_eq_nil_iff]
  intro x hx
  simpa using h x hx
theorem mem_fk {k : Int} {l : List Pq} {x : Pq} : x ∈ fk k l ↔ x ∈ l ∧ x.f0 = k := by simp [fk]
/-- r is l in order, those of one address as they were. -/
structure IsSort (l r : List Pq) : Prop where
  srt : Srt r
  eqk : ∀ k, fk k r = fk k l
theorem IsSort.mem {l r : List Pq} (h : IsSort l r) (x : Pq) : x ∈ r ↔ x ∈ l := by
  have e := h.eqk x.f0
  constructor
  · intro hx
    have : x ∈ fk x.f0 r := mem_fk.2 ⟨hx, rfl⟩
    rw [e] at this
    exact (mem_fk.1 this).1
  · intro hx
    have : x ∈ fk x.f0 l := mem_fk.2 ⟨hx, rfl⟩
    rw [← e] at this
    exact (mem_fk.1 this).1
theorem srt_uniq : ∀ (r s : List Pq), Srt r → Srt s → (∀ k, fk k r = fk k s) → r = s
  | [], [], _, _, _ => rfl
  | [], y :: s, _, _, h => by
    have := h y.f0
    rw [fk_cons_eq s rfl] at this
    cases this
  | x :: r, [], _, _, h => by
    have := h x.f0
    rw [fk_cons_eq r rfl] at this
    cases this
  | x :: r, y :: s, hr, hs, h => by
    have hr' := List.pairwise_cons.1 hr
    have hs' := List.pairwise_cons.1 hs
    have h1 : x ∈ y :: s := by
      have : x ∈ fk x.f0 (x :: r) := mem_fk.2 ⟨by simp, rfl⟩
      rw [h] at this
      exact (mem_fk.1 this).1
    have h2 : y ∈ x :: r := by
      have : y ∈ fk y.f0 (y :: s) := mem_fk.2 ⟨by simp, rfl⟩
      rw [← h] at this
      exact (mem_fk.1 this).1
    have e : x.f0 = y.f0 := by
      have a1 : y.f0 ≤ x.f0 := by
        rcases List.mem_cons.1 h1 with rfl | hx
        · exact Int.le_refl _
        · exact hs'.1 x hx
      have a2 : x.f0 ≤ y.f0 := by
        rcases List.mem_cons.1 h2 with rfl | hx
        · exact Int.le_refl _
        · exact hr'.1 y hx
      omega
    have h3 := h x.f0
    rw [fk_cons_eq r rfl, fk_cons_eq s e.symm] at h3
    obtain ⟨rfl, h4⟩ := List.cons.inj h3
    congr 1
    refine srt_uniq r s hr'.2 hs'.2 (fun k => ?_)
    have h5 := h k
    by_cases hk : x.f0 = k
    · rw [fk_cons_eq r hk, fk_cons_eq s hk] at h5
      exact (List.cons.inj h5).2
    · rwa [fk_cons_ne r hk, fk_cons_ne s hk] at h5
theorem IsSort.uniq {l r s : List Pq} (h : IsSort l r) (h' : IsSort l s) : r = s := srt_uniq r s h.srt h'.srt (fun k => (h.eqk k).trans (h'.eqk k).symm)
/-- Laid in behind those that are not above it. -/
def insP (x : Pq) : List Pq → List Pq
  | [] => [x]
  | y :: l => if x.f0 < y.f0 then x :: y :: l else y :: insP x l
theorem insP_split (x : Pq) (a b : List Pq) (ha : ∀ y ∈ a, y.f0 ≤ x.f0) (hb : ∀ y ∈ b, x.f0 < y.f0) : insP x (a ++ b) = a ++ x :: b := by
  induction a with
  | nil =>
    cases b with
    | nil => rfl
    | cons y b => rw [List.nil_append, insP, if_pos (hb y (by simp))]; rfl
  | cons y a ih =>
    have := ha y (by simp)
    rw [List.cons_append, insP, if_neg (by omega), ih (fun z hz => ha z (by simp [hz]))]
    rfl
/-- In order: each behind those ahead of it. -/
def sortF (l : List Pq) (out : List Pq) : List Pq := l.foldl (fun o x => insP x o) out
def sortP (l : List Pq) : List Pq := sortF l []
theorem srt_split (x : Int) (l : List Pq) (h : Srt l) : ∃ a b, l = a ++ b ∧ (∀ y ∈ a, y.f0 ≤ x) ∧ ∀ y ∈ b, x < y.f0 := by
  induction l with
  | nil => exact ⟨[], [], rfl, by simp, by simp⟩
  | cons y l ih =>
    have h' := List.pairwise_cons.1 h
    by_cases c : y.f0 ≤ x
    · obtain ⟨a, b, e, h1, h2⟩ := ih h'.2
      refine ⟨y :: a, b, by rw [e]; rfl, ?_, h2⟩
      intro z hz
      rcases List.mem_cons.1 hz with rfl | hz
      · exact c
      · exact h1 z hz
    · refine ⟨[], y :: l, rfl, by simp, ?_⟩
      intro z hz
      rcases List.mem_cons.1 hz with rfl | hz
      · omega
      · have := h'.1 z hz; omega
theorem srt_append {a b : List Pq} (ha : Srt a) (hb : Srt b) (h : ∀ x ∈ a, ∀ y ∈ b, x.f0 ≤ y.f0) : Srt (a ++ b) := List.pairwise_append.2 ⟨ha, hb, h⟩
theorem srt_left {a b : List Pq} (h : Srt (a ++ b)) : Srt a := (List.pairwise_append.1 h).1
theorem srt_right {a b : List Pq} (h : Srt (a ++ b)) : Srt b := (List.pairwise_append.1 h).2.1
theorem srt_cross {a b : List Pq} (h : Srt (a ++ b)) : ∀ x ∈ a, ∀ y ∈ b, x.f0 ≤ y.f0 := (List.pairwise_append.1 h).2.2
/-- One more at the end, laid in where it belongs. -/
theorem isSort_snoc {l a b : List Pq} (x : Pq) (h : IsSort l (a ++ b)) (ha : ∀ y ∈ a, y.f0 ≤ x.f0) (hb : ∀ y ∈ b, x.f0 < y.f0) : IsSort (l ++ [x]) (a ++ x :: b) := by
  refine ⟨srt_append (srt_left h.srt) (List.pairwise_cons.2 ⟨fun y hy => by have := hb y hy; omega, srt_right h.srt⟩) ?_, fun k => ?_⟩
  · intro y hy z hz
    rcases List.mem_cons.1 hz with rfl | hz
    · exact ha y hy
    · exact srt_cross h.srt y hy z hz
  · have e := h.eqk k
    rw [fk_append] at e
    rw [fk_append, fk_append, ← e]
    by_cases c : x.f0 = k
    · have : fk k b = [] := fk_nil_of (fun y hy => by have := hb y hy; omega)
      rw [fk_cons_eq b c, this, show fk k [x] = [x] from by rw [fk_cons_eq [] c]; rfl]
      simp
    · rw [fk_cons_ne b c, show fk k [x] = [] from by rw [fk_cons_ne [] c]; rfl]
      simp
theorem isSort_ins {l o : List Pq} (x : Pq) (h : IsSort l o) : IsSort (l ++ [x]) (insP x o) := by
  obtain ⟨a, b, rfl, h1, h2⟩ := srt_split x.f0 o h.srt
  rw [insP_split x a b h1 h2]
  exact isSort_snoc x h h1 h2
theorem sortF_is (l : List Pq) : ∀ p o : List Pq, IsSort p o → IsSort (p ++ l) (sortF l o) := by
  induction l with
  | nil => intro p o h; simpa [sortF] using h
  | cons x l ih =>
    intro p o h
    have := ih (p ++ [x]) (insP x o) (isSort_ins x h)
    simpa [sortF] using this
theorem isSort_nil : IsSort [] [] := ⟨List.Pairwise.nil, fun _ => rfl⟩
theorem sortP_is (l : List Pq) : IsSort l (sortP l) := by simpa [sortP] using sortF_is l [] [] isSort_nil
theorem sortP_eq {l r : List Pq} (h : IsSort l r) : r = sortP l := h.uniq (sortP_is l)
theorem sortP_of_srt {l : List Pq} (h : Srt l) : sortP l = l := (sortP_eq ⟨h, fun _ => rfl⟩).symm
theorem insP_length (x : Pq) (l : List Pq) : (insP x l).length = l.length + 1 := by
  induction l with
  | nil => rfl
  | cons y l ih => unfold insP; split <;> simp [ih]
theorem sortF_length (l : List Pq) : ∀ o : List Pq, (sortF l o).length = o.length + l.length := by
  induction l with
  | nil => intro o; rfl
  | cons x l ih => intro o; have := ih (insP x o); simp only [sortF, List.foldl_cons] at this ⊢; rw [this, insP_length]; simp; omega
theorem sortP_length (l : List Pq) : (sortP l).length = l.length := by rw [sortP, sortF_length]; simp
/-- Two in order, parted and laid together again: the lower parts first. -/
theorem isSort_merge {a1 a2 b1 b2 : List Pq} (ha : Srt (a1 ++ a2)) (hb : Srt (b1 ++ b2)) (h1 : ∀ x ∈ a1, ∀ y ∈ b2, x.f0 ≤ y.f0) (h2 : ∀ x ∈ b1, ∀ y ∈ a2, x.f0 < y.f0) :
    IsSort ((a1 ++ a2) ++ (b1 ++ b2)) (sortP (a1 ++ b1) ++ sortP (a2 ++ b2)) := by
  have s1 := sortP_is (a1 ++ b1)
  have s2 := sortP_is (a2 ++ b2)
  refine ⟨srt_append s1.srt s2.srt ?_, fun k => ?_⟩
  · intro x hx y hy
    rcases List.mem_append.1 ((s1.mem x).1 hx) with hx | hx <;> rcases List.mem_append.1 ((s2.mem y).1 hy) with hy | hy
    · exact srt_cross ha x hx y hy
    · exact h1 x hx y hy
    · exact Int.le_of_lt (h2 x hx y hy)
    · exact srt_cross hb x hx y hy
  · rw [fk_append, s1.eqk, s2.eqk]
    simp only [fk_append]
    by_cases c : ∃ x ∈ b1, x.f0 = k
    · obtain ⟨x, hx, e⟩ := c
      have : fk k a2 = [] := fk_nil_of (fun y hy => by have := h2 x hx y hy; omega)
      rw [this]
      simp
    · have : fk k b1 = [] := fk_nil_of (fun y hy he => c ⟨y, hy, he⟩)
      rw [this]
      simp
theorem sortP_merge {a1 a2 b1 b2 : List Pq} (ha : Srt (a1 ++ a2)) (hb : Srt (b1 ++ b2)) (h1 : ∀ x ∈ a1, ∀ y ∈ b2, x.f0 ≤ y.f0) (h2 : ∀ x ∈ b1, ∀ y ∈ a2, x.f0 < y.f0) :
    sortP ((a1 ++ a2) ++ (b1 ++ b2)) = sortP (a1 ++ b1) ++ sortP (a2 ++ b2) := (sortP_eq (isSort_merge ha hb h1 h2)).symm
/-- Boundaries tell all. -/
theorem all_le {a b : List Pq} {x y : Pq} (ha : Srt (a ++ [x])) (hb : Srt (y :: b)) (h : x.f0 ≤ y.f0) : ∀ u ∈ a ++ [x], ∀ v ∈ y :: b, u.f0 ≤ v.f0 := by
  intro u hu v hv
  have h1 : u.f0 ≤ x.f0 := by
    rcases List.mem_append.1 hu with hu | hu
    · exact srt_cross ha u hu x (by simp)
    · simp at hu; subst hu; exact Int.le_refl _
  have h2 : y.f0 ≤ v.f0 := by
    rcases List.mem_cons.1 hv with rfl | hv
    · exact Int.le_refl _
    · exact (List.pairwise_cons.1 hb).1 v hv
  omega
theorem all_lt {a b : List Pq} {x y : Pq} (ha : Srt (a ++ [x])) (hb : Srt (y :: b)) (h : x.f0 < y.f0) : ∀ u ∈ a ++ [x], ∀ v ∈ y :: b, u.f0 < v.f0 := by
  intro u hu v hv
  have h1 : u.f0 ≤ x.f0 := by
    rcases List.mem_append.1 hu with hu | hu
    · exact srt_cross ha u hu x (by simp)
    · simp at hu; subst hu; exact Int.le_refl _
  have h2 : y.f0 ≤ v.f0 := by
    rcases List.mem_cons.1 hv with rfl | hv
    · exact Int.le_refl _
    · exact (List.pairwise_cons.1 hb).1 v hv
  omega
/-- The first list that has a word. -/
def mayB (x : Pq) : Bool := decide (0 ≤ x.f0) && decide (x.f0 ≤ 2147483648) && decide (1 ≤ x.f1) && decide (x.f1 ≤ 2147483648)
def hasP (at_ : Int) (x : Pq) : Bool := mayB x && decide (x.f0 ≤ at_) && decide (at_ < x.f0 + x.f1)
def kindP : List (List Pq) → Int → Int → Int
  | [], _, _ => 0
  | l :: r, at_, i => if l.any (hasP at_) = true then i + 1 else kindP r at_ (i + 1)
end Go.Proofs.Ythbknmblehecaaa.Pure
