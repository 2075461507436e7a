/- Several texts in one: Prx9, Prx16, LinDfs. -/
import Derived.Test.YtpddppipjlagfaaPrx0
import Derived.Test.YtpddppipjlagfaaOpFunc
import Derived.Test.YtpddppipjlagfaaRefAlloc
-- Printed by a program of this session (wip/tools/myprint.py) that runs the kit's print with contracts of this session's own.
namespace Go.Proofs.Ytpddppipjlagfaa.Pr
open Go.RowKit Go.Proofs.YtpddppipjlagfaaW.PrintWords Go.Proofs.YtpddppipjlagfaaW.PrintLast Go.Proofs.YtpddppipjlagfaaW.PrintMore
attribute [local go_sem] max2_int min2_int max_two min_two max_three min_three max_four min_four   -- for this text's walks alone
set_option linter.unusedVariables false
set_option linter.unusedSimpArgs false

/-! ### api_Live_56_57: function 56 with 57 (a contract of this session's own) -/
def api_Live_56_57.f (l0 : List (S59)) (a1_0 a1_1 a1_2 : Int) : Option (Bool) := if l0.length ≤ 17592186044416 then some (l0.any (liveOver ⟨a1_0, a1_1, a1_2⟩)) else none
theorem api_Live_56_57.calls (A0 : Option Addr) (c0 : Nat) (l0 : List (S59)) (g1_ : Nat) (a1_0 a1_1 a1_2 : Int) (r : Bool) (w : World) (hr0 : Kd.C k59 w A0 l0.length l0) (hc0 : l0.length ≤ c0) (hk1 : w.heap[g1_]? = some (.cells #[.int .i64 a1_0, .int .i64 a1_1, .int .i64 a1_2] 59 (0, 0))) (h : api_Live_56_57.f l0 a1_0 a1_1 a1_2 = some r) :
  Calls Try.prog 56 #[.slice A0 l0.length c0, .func (.func 57) #[] #[.pointer (some ⟨g1_, 0, none⟩)]] w fun e w' => e = .returned (.bool r) ∧ Below w.heap.size w w' := by
 unfold api_Live_56_57.f at h
 split at h
 next hl =>
  obtain rfl := Option.some.inj h
  exact contains_liveAlloc A0 c0 l0 g1_ a1_0 a1_1 a1_2 w hr0 hl hk1
 next => cases h

end Go.Proofs.Ytpddppipjlagfaa.Pr

-- Printed by a program of this session (wip/tools/myprint.py) that runs the kit's print with contracts of this session's own.
namespace Go.Proofs.Ytpddppipjlagfaa.Pr
open Go.RowKit Go.Proofs.YtpddppipjlagfaaW.PrintWords Go.Proofs.YtpddppipjlagfaaW.PrintLast Go.Proofs.YtpddppipjlagfaaW.PrintMore
attribute [local go_sem] max2_int min2_int max_two min_two max_three min_three max_four min_four   -- for this text's walks alone
set_option linter.unusedVariables false
set_option linter.unusedSimpArgs false

/-! ### rickyardref13_Alloc: function 39 (a contract of this session's own) -/
def rickyardref13_Alloc.f (a0_0 : Int) (l0_1 : List S59) (a1 a2 : Int) : Option (Int × List S59 × Bool) := if l0_1.length ≤ 1000 then some (rallocG a0_0 l0_1 a1 a2) else none
theorem rickyardref13_Alloc.calls (a0_0 : Int) (A0_1 : Option Addr) (c0_1 : Nat) (l0_1 : List S59) (a1 a2 : Int) (r1 : Int) (r2 : List S59) (r3 : Bool) (w : World) (hr0_1 : Kd.C k59 w A0_1 l0_1.length l0_1) (hc0_1 : l0_1.length ≤ c0_1) (h : rickyardref13_Alloc.f a0_0 l0_1 a1 a2 = some (r1, r2, r3)) :
  Calls Try.prog 39 #[.agg #[.int .i64 a0_0, .slice A0_1 l0_1.length c0_1], .int .i64 a1, .int .i64 a2] w fun e w' => ∃ v1_ : Value, e = .returned (.tuple #[.agg #[.int .i64 r1, v1_], .bool r3]) ∧ Kd.R k59 59 w' w.heap.size (fun _ => True) v1_ r2 ∧ Below w.heap.size w w' := by
 unfold rickyardref13_Alloc.f at h
 split at h
 next hl =>
  have h1 := Option.some.inj h
  have h2 := ralloc_any a0_0 A0_1 c0_1 l0_1 a1 a2 w hr0_1 hc0_1 hl
  unfold RAllocPost at h2
  rw [h1] at h2
  exact h2
 next => cases h

end Go.Proofs.Ytpddppipjlagfaa.Pr

/- A search through orders, the least place first: plain law. No program in it. No statement is proved here. -/
namespace Go.Proofs.Ytpddppipjlagfaa.Dfs
set_option linter.unusedVariables false
/-- Is an order still ahead of a search that stands at P and goes on with f? -/
def left : List Nat → Nat → List Nat → Prop
  | [], f, [] => f = 0
  | [], f, x :: _ => f ≤ x
  | _ :: _, _, [] => False
  | p :: P, f, x :: Q => p < x ∨ (p = x ∧ left P f Q)
theorem left_refl (P : List Nat) : left P 0 P := by
  induction P with
  | nil => rfl
  | cons p P ih => exact .inr ⟨rfl, ih⟩
theorem left_start (Q : List Nat) : left [] 0 Q := by cases Q <;> simp [left]
theorem left_push {P : List Nat} {f x : Nat} {Q : List Nat} (h : left P f Q) (hf : f ≤ x) (hn : ∀ y S, f ≤ y → y < x → Q ≠ P ++ y :: S) (hq : Q ≠ P) : left (P ++ [x]) 0 Q := by
  induction P generalizing Q with
  | nil =>
    cases Q with
    | nil => exact absurd rfl hq
    | cons y S =>
      have h1 : f ≤ y := h
      by_cases c : y < x
      · exact absurd rfl (hn y S h1 c)
      · by_cases d : x = y
        · exact .inr ⟨d, left_start S⟩
        · exact .inl (by omega)
  | cons p P ih =>
    cases Q with
    | nil => exact h.elim
    | cons y S =>
      rcases h with h | ⟨rfl, h⟩
      · exact .inl h
      · exact .inr ⟨rfl, ih h (fun z T h1 h2 e => hn z T h1 h2 (by rw [e]; rfl)) (fun e => hq (by rw [e]))⟩
theorem left_pop {P : List Nat} {x f : Nat} {Q : List Nat} (h : left (P ++ [x]) f Q) (hn : ∀ y S, f ≤ y → Q ≠ (P ++ [x]) ++ y :: S) (hq : f = 0 → Q ≠ P ++ [x]) : left P (x + 1) Q := by
  induction P generalizing Q with
  | nil =>
    cases Q with
    | nil => exact h.elim
    | cons q S =>
      rcases h with h | ⟨rfl, h⟩
      · exact h
      · cases S with
        | nil => exact absurd rfl (hq h)
        | cons y S => exact absurd rfl (hn y S h)
  | cons p P ih =>
    cases Q with
    | nil => exact h.elim
    | cons y S =>
      rcases h with h | ⟨rfl, h⟩
      · exact .inl h
      · exact .inr ⟨rfl, ih h (fun z T h1 e => hn z T h1 (by rw [e]; rfl)) (fun e1 e => hq e1 (by rw [e]; rfl))⟩
theorem left_end {f : Nat} {Q : List Nat} (h : left [] f Q) (hn : ∀ y S, f ≤ y → Q ≠ y :: S) (hq : f = 0 → Q ≠ []) : False := by
  cases Q with
  | nil => exact hq h rfl
  | cons y S => exact hn y S h rfl
theorem left_anti {P Q : List Nat} (h : left P 0 Q) (h' : left Q 0 P) : P = Q := by
  induction P generalizing Q with
  | nil =>
    cases Q with
    | nil => rfl
    | cons y S => exact h'.elim
  | cons p P ih =>
    cases Q with
    | nil => exact h.elim
    | cons y S =>
      rcases h with h | ⟨rfl, h⟩
      · rcases h' with h' | ⟨h', _⟩
        · omega
        · omega
      · rcases h' with h' | ⟨_, h'⟩
        · omega
        · rw [ih h h']
/-- The first order that fits, or none. -/
def IsOrd (F : List Nat → Prop) : Option (List Nat) → Prop
  | some P => F P ∧ ∀ Q, F Q → left P 0 Q
  | none => ∀ Q, ¬ F Q
theorem ord_uniq {F : List Nat → Prop} {r s : Option (List Nat)} (h : IsOrd F r) (h' : IsOrd F s) : r = s := by
  cases r with
  | none =>
    cases s with
    | none => rfl
    | some P => exact absurd h'.1 (h P)
  | some P =>
    cases s with
    | none => exact absurd h.1 (h' P)
    | some Q => rw [left_anti (h.2 Q h'.1) (h'.2 P h.1)]
/-- How far a search has come. -/
def val (B : Nat) : Nat → List Nat → Nat → Nat
  | d, [], f => f * B ^ d
  | d, p :: P, f => p * B ^ d + val B (d - 1) P f
theorem val_lt (B : Nat) (P : List Nat) : ∀ (d f : Nat), P.length ≤ d → (∀ p ∈ P, p < B) → f < B → val B d P f < B ^ (d + 1) := by
  induction P with
  | nil =>
    intro d f _ _ hf
    unfold val
    rw [Nat.pow_succ, Nat.mul_comm f]
    exact Nat.mul_lt_mul_of_pos_left hf (Nat.pow_pos (by omega))
  | cons p P ih =>
    intro d f hd hp hf
    obtain ⟨d, rfl⟩ : ∃ e, d = e + 1 := ⟨d - 1, by simp at hd; omega⟩
    have h1 := ih d f (by simpa using hd) (fun q hq => hp q (by simp [hq])) hf
    have h2 := hp p (by simp)
    unfold val
    simp only [Nat.add_sub_cancel]
    have h3 : (p + 1) * B ^ (d + 1) ≤ B * B ^ (d + 1) := Nat.mul_le_mul_right _ h2
    rw [Nat.add_mul, Nat.one_mul] at h3
    rw [Nat.pow_succ B (d + 1), Nat.mul_comm (B ^ (d + 1)) B]
    omega
theorem val_push (B : Nat) (P : List Nat) (f x : Nat) (h : f ≤ x) : ∀ d, val B d P f ≤ val B d (P ++ [x]) 0 := by
  induction P with
  | nil =>
    intro d
    simp only [List.nil_append, val]
    have := Nat.mul_le_mul_right (B ^ d) h
    omega
  | cons p P ih =>
    intro d
    simp only [List.cons_append, val]
    have := ih (d - 1)
    omega
theorem val_pop (B : Nat) (P : List Nat) (f x : Nat) (hf : f < B) : ∀ d, P.length + 1 ≤ d → val B d (P ++ [x]) f < val B d P (x + 1) := by
  induction P with
  | nil =>
    intro d hd
    obtain ⟨d, rfl⟩ : ∃ e, d = e + 1 := ⟨d - 1, by simp at hd; omega⟩
    simp only [List.nil_append, val, Nat.add_sub_cancel]
    rw [Nat.add_mul, Nat.one_mul]
    have : f * B ^ d < B ^ (d + 1) := by
      rw [Nat.pow_succ, Nat.mul_comm]
      exact Nat.mul_lt_mul_of_pos_left hf (Nat.pow_pos (by omega))
    omega
  | cons p P ih =>
    intro d hd
    simp only [List.cons_append, val]
    have := ih (d - 1) (by simp at hd; omega)
    omega
/-- What is left of a search among n places. -/
def mu (n : Nat) (P : List Nat) (f : Nat) : Nat := ((n + 2) ^ (n + 1) - val (n + 2) n P f) * (n + 2) + (n + 1 - P.length)
theorem mu_push {n : Nat} {P : List Nat} {f x : Nat} (hP : (P ++ [x]).length ≤ n) (hp : ∀ p ∈ P ++ [x], p < n) (hf : f ≤ x) : mu n (P ++ [x]) 0 < mu n P f := by
  unfold mu
  have h1 := val_push (n + 2) P f x hf n
  have h2 := val_lt (n + 2) (P ++ [x]) n 0 hP (fun p h => by have := hp p h; omega) (by omega)
  have h3 : ((n + 2) ^ (n + 1) - val (n + 2) n (P ++ [x]) 0) * (n + 2) ≤ ((n + 2) ^ (n + 1) - val (n + 2) n P f) * (n + 2) := Nat.mul_le_mul_right _ (by omega)
  simp only [List.length_append, List.length_cons, List.length_nil] at hP ⊢
  omega
theorem mu_pop {n : Nat} {P : List Nat} {f x : Nat} (hP : (P ++ [x]).length ≤ n) (hp : ∀ p ∈ P ++ [x], p < n) (hf : f ≤ n) : mu n P (x + 1) < mu n (P ++ [x]) f := by
  unfold mu
  have h1 := val_pop (n + 2) P f x (by omega) n (by simpa using hP)
  have hx := hp x (by simp)
  have h2 := val_lt (n + 2) P n (x + 1) (by simp at hP; omega) (fun p h => by have := hp p (by simp [h]); omega) (by omega)
  have h3 : ((n + 2) ^ (n + 1) - val (n + 2) n P (x + 1) + 1) * (n + 2) ≤ ((n + 2) ^ (n + 1) - val (n + 2) n (P ++ [x]) f) * (n + 2) := Nat.mul_le_mul_right _ (by omega)
  rw [Nat.add_mul, Nat.one_mul] at h3
  simp only [List.length_append, List.length_cons, List.length_nil] at hP ⊢
  omega
end Go.Proofs.Ytpddppipjlagfaa.Dfs
