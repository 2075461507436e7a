/- Several texts in one: LinDfs, LinPure, LinFits, LinLaw, LinSearch. -/
import Derived.Test.YtpddppipjlagfaaModelCalls
import Derived.Test.YtpddppipjlagfaaPrx3
import Derived.Test.YtpddppipjlagfaaPrx16
import Derived.Test.YtpddppipjlagfaaAccLaw
import Derived.IntWalk
import Derived.Outline
import Derived.StillTailTactics
/- A search through orders, the least place first: plain law. No program in it. No statement is proved here. -/
namespace Go.Proofs.Ytpddppipjlagfaa.Dfs
set_option linter.unusedVariables false
/-- Is an order still ahead of a search that stands at P and goes on with f? -/
def left : List Nat → Nat → List Nat → Prop
  | [], f, [] => f = 0
  | [], f, x :: _ => f ≤ x
  | _ :: _, _, [] => False
  | p :: P, f, x :: Q => p < x ∨ (p = x ∧ left P f Q)
theorem left_refl (P : List Nat) : left P 0 P := by
  induction P with
  | nil => rfl
  | cons p P ih => exact .inr ⟨rfl, ih⟩
theorem left_start (Q : List Nat) : left [] 0 Q := by cases Q <;> simp [left]
theorem left_push {P : List Nat} {f x : Nat} {Q : List Nat} (h : left P f Q) (hf : f ≤ x) (hn : ∀ y S, f ≤ y → y < x → Q ≠ P ++ y :: S) (hq : Q ≠ P) : left (P ++ [x]) 0 Q := by
  induction P generalizing Q with
  | nil =>
    cases Q with
    | nil => exact absurd rfl hq
    | cons y S =>
      have h1 : f ≤ y := h
      by_cases c : y < x
      · exact absurd rfl (hn y S h1 c)
      · by_cases d : x = y
        · exact .inr ⟨d, left_start S⟩
        · exact .inl (by omega)
  | cons p P ih =>
    cases Q with
    | nil => exact h.elim
    | cons y S =>
      rcases h with h | ⟨rfl, h⟩
      · exact .inl h
      · exact .inr ⟨rfl, ih h (fun z T h1 h2 e => hn z T h1 h2 (by rw [e]; rfl)) (fun e => hq (by rw [e]))⟩
theorem left_pop {P : List Nat} {x f : Nat} {Q : List Nat} (h : left (P ++ [x]) f Q) (hn : ∀ y S, f ≤ y → Q ≠ (P ++ [x]) ++ y :: S) (hq : f = 0 → Q ≠ P ++ [x]) : left P (x + 1) Q := by
  induction P generalizing Q with
  | nil =>
    cases Q with
    | nil => exact h.elim
    | cons q S =>
      rcases h with h | ⟨rfl, h⟩
      · exact h
      · cases S with
        | nil => exact absurd rfl (hq h)
        | cons y S => exact absurd rfl (hn y S h)
  | cons p P ih =>
    cases Q with
    | nil => exact h.elim
    | cons y S =>
      rcases h with h | ⟨rfl, h⟩
      · exact .inl h
      · exact .inr ⟨rfl, ih h (fun z T h1 e => hn z T h1 (by rw [e]; rfl)) (fun e1 e => hq e1 (by rw [e]; rfl))⟩
theorem left_end {f : Nat} {Q : List Nat} (h : left [] f Q) (hn : ∀ y S, f ≤ y → Q ≠ y :: S) (hq : f = 0 → Q ≠ []) : False := by
  cases Q with
  | nil => exact hq h rfl
  | cons y S => exact hn y S h rfl
theorem left_anti {P Q : List Nat} (h : left P 0 Q) (h' : left Q 0 P) : P = Q := by
  induction P generalizing Q with
  | nil =>
    cases Q with
    | nil => rfl
    | cons y S => exact h'.elim
  | cons p P ih =>
    cases Q with
    | nil => exact h.elim
    | cons y S =>
      rcases h with h | ⟨rfl, h⟩
      · rcases h' with h' | ⟨h', _⟩
        · omega
        · omega
      · rcases h' with h' | ⟨_, h'⟩
        · omega
        · rw [ih h h']
/-- The first order that fits, or none. -/
def IsOrd (F : List Nat → Prop) : Option (List Nat) → Prop
  | some P => F P ∧ ∀ Q, F Q → left P 0 Q
  | none => ∀ Q, ¬ F Q
theorem ord_uniq {F : List Nat → Prop} {r s : Option (List Nat)} (h : IsOrd F r) (h' : IsOrd F s) : r = s := by
  cases r with
  | none =>
    cases s with
    | none => rfl
    | some P => exact absurd h'.1 (h P)
  | some P =>
    cases s with
    | none => exact absurd h.1 (h' P)
    | some Q => rw [left_anti (h.2 Q h'.1) (h'.2 P h.1)]
/-- How far a search has come. -/
def val (B : Nat) : Nat → List Nat → Nat → Nat
  | d, [], f => f * B ^ d
  | d, p :: P, f => p * B ^ d + val B (d - 1) P f
theorem val_lt (B : Nat) (P : List Nat) : ∀ (d f : Nat), P.length ≤ d → (∀ p ∈ P, p < B) → f < B → val B d P f < B ^ (d + 1) := by
  induction P with
  | nil =>
    intro d f _ _ hf
    unfold val
    rw [Nat.pow_succ, Nat.mul_comm f]
    exact Nat.mul_lt_mul_of_pos_left hf (Nat.pow_pos (by omega))
  | cons p P ih =>
    intro d f hd hp hf
    obtain ⟨d, rfl⟩ : ∃ e, d = e + 1 := ⟨d - 1, by simp at hd; omega⟩
    have h1 := ih d f (by simpa using hd) (fun q hq => hp q (by simp [hq])) hf
    have h2 := hp p (by simp)
    unfold val
    simp only [Nat.add_sub_cancel]
    have h3 : (p + 1) * B ^ (d + 1) ≤ B * B ^ (d + 1) := Nat.mul_le_mul_right _ h2
    rw [Nat.add_mul, Nat.one_mul] at h3
    rw [Nat.pow_succ B (d + 1), Nat.mul_comm (B ^ (d + 1)) B]
    omega
theorem val_push (B : Nat) (P : List Nat) (f x : Nat) (h : f ≤ x) : ∀ d, val B d P f ≤ val B d (P ++ [x]) 0 := by
  induction P with
  | nil =>
    intro d
    simp only [List.nil_append, val]
    have := Nat.mul_le_mul_right (B ^ d) h
    omega
  | cons p P ih =>
    intro d
    simp only [List.cons_append, val]
    have := ih (d - 1)
    omega
theorem val_pop (B : Nat) (P : List Nat) (f x : Nat) (hf : f < B) : ∀ d, P.length + 1 ≤ d → val B d (P ++ [x]) f < val B d P (x + 1) := by
  induction P with
  | nil =>
    intro d hd
    obtain ⟨d, rfl⟩ : ∃ e, d = e + 1 := ⟨d - 1, by simp at hd; omega⟩
    simp only [List.nil_append, val, Nat.add_sub_cancel]
    rw [Nat.add_mul, Nat.one_mul]
    have : f * B ^ d < B ^ (d + 1) := by
      rw [Nat.pow_succ, Nat.mul_comm]
      exact Nat.mul_lt_mul_of_pos_left hf (Nat.pow_pos (by omega))
    omega
  | cons p P ih =>
    intro d hd
    simp only [List.cons_append, val]
    have := ih (d - 1) (by simp at hd; omega)
    omega
/-- What is left of a search among n places. -/
def mu (n : Nat) (P : List Nat) (f : Nat) : Nat := ((n + 2) ^ (n + 1) - val (n + 2) n P f) * (n + 2) + (n + 1 - P.length)
theorem mu_push {n : Nat} {P : List Nat} {f x : Nat} (hP : (P ++ [x]).length ≤ n) (hp : ∀ p ∈ P ++ [x], p < n) (hf : f ≤ x) : mu n (P ++ [x]) 0 < mu n P f := by
  unfold mu
  have h1 := val_push (n + 2) P f x hf n
  have h2 := val_lt (n + 2) (P ++ [x]) n 0 hP (fun p h => by have := hp p h; omega) (by omega)
  have h3 : ((n + 2) ^ (n + 1) - val (n + 2) n (P ++ [x]) 0) * (n + 2) ≤ ((n + 2) ^ (n + 1) - val (n + 2) n P f) * (n + 2) := Nat.mul_le_mul_right _ (by omega)
  simp only [List.length_append, List.length_cons, List.length_nil] at hP ⊢
  omega
theorem mu_pop {n : Nat} {P : List Nat} {f x : Nat} (hP : (P ++ [x]).length ≤ n) (hp : ∀ p ∈ P ++ [x], p < n) (hf : f ≤ n) : mu n P (x + 1) < mu n (P ++ [x]) f := by
  unfold mu
  have h1 := val_pop (n + 2) P f x (by omega) n (by simpa using hP)
  have hx := hp x (by simp)
  have h2 := val_lt (n + 2) P n (x + 1) (by simp at hP; omega) (fun p h => by have := hp p (by simp [h]); omega) (by omega)
  have h3 : ((n + 2) ^ (n + 1) - val (n + 2) n P (x + 1) + 1) * (n + 2) ≤ ((n + 2) ^ (n + 1) - val (n + 2) n (P ++ [x]) f) * (n + 2) := Nat.mul_le_mul_right _ (by omega)
  rw [Nat.add_mul, Nat.one_mul] at h3
  simp only [List.length_append, List.length_cons, List.length_nil] at hP ⊢
  omega
end Go.Proofs.Ytpddppipjlagfaa.Dfs

/- Orders of deeds: which orders fit; what the small functions answer. No statement is proved here. -/
namespace Go.Proofs.Ytpddppipjlagfaa.Pure
open Go.RowKit Go.Proofs.Ytpddppipjlagfaa.Pr Go.Proofs.YtpddppipjlagfaaW.PrintWords Go.Proofs.YtpddppipjlagfaaW.PrintLast Go.Proofs.YtpddppipjlagfaaW.PrintMore Go.Proofs.Ytpddppipjlagfaa
set_option linter.unusedVariables false
set_option linter.unusedSimpArgs false
abbrev Oq := S40
/-- The deed of a place. -/
def opL (l : List Oq) (i : Int) : Oq := rd_T40 l i
def endB (x : Oq) : Bool := x.f2 != -1
/-- Must x stand ahead of y? -/
def ahB (x y : Oq) : Bool := endB x && decide (x.f2 < y.f1)
def badB (x : Oq) : Bool := decide (x.f1 < 0) || (decide (2147483648 < x.f1) || (decide (x.f2 ≠ -1) && (decide (x.f2 < x.f1) || decide (2147483648 < x.f2))))
def mayB (l : List Oq) : Bool := !l.any badB
def inB (l : List Oq) (i : Int) : Bool := decide (0 ≤ i) && decide (i < l.length)
def placesB (l : List Oq) (o : List Int) : Bool := o.all (inB l) && decide o.Nodup
def fullB (l : List Oq) (o : List Int) : Bool := (List.range l.length).all fun i => !endB (opL l (i : Int)) || decide ((i : Int) ∈ o)

theorem ahead_is (x y : Oq) : lin_ahead.f x.f0.f0 x.f0.f1 x.f0.f2 x.f0.f3 x.f1 x.f2 y.f0.f0 y.f0.f1 y.f0.f2 y.f0.f3 y.f1 y.f2 = some (ahB x y) := by
  unfold lin_ahead.f lin_ended.f ahB endB
  rw [Option.bind_some]
  cases h : (x.f2 != -1)
  · rfl
  · rfl
theorem rahead_is (x y : Oq) : rickyardref26_ahead.f x.f0.f0 x.f0.f1 x.f0.f2 x.f0.f3 x.f1 x.f2 y.f0.f0 y.f0.f1 y.f0.f2 y.f0.f3 y.f1 y.f2 = some (ahB x y) := by
  unfold rickyardref26_ahead.f ahB endB
  by_cases c : x.f2 = -1
  · rw [if_pos c]; simp [c]
  · rw [if_neg c]; simp [c]
theorem mayl_is (l : List Oq) (hl : l.length ≤ 1000) : lin_May.f l = some (mayB l) := by
  unfold lin_May.f api_Op_31_32.f
  rw [if_pos (by omega), Option.bind_some]
  rfl
theorem rdi_mid (pre : List Int) (x : Int) (suf : List Int) : rd (pre ++ x :: suf) (pre.length : Int) = x := by
  simp [rd, List.getD_eq_getElem?_getD]
theorem nxti (n : Nat) (h : n < 9223372036854775807) : wrap64 ((n : Int) + 1) = ((n + 1 : Nat) : Int) := by rw [w64 (by omega) (by omega)]; omega
theorem in_l0 (n : Int) (suf : List Int) : ∀ pre : List Int, (pre ++ suf).length < 9223372036854775807 → Ev (fun k => rickyardref26_In.l0 k (pre ++ suf) n (pre.length : Int)) (decide (n ∈ suf)) := by
  induction suf with
  | nil =>
    intro pre h
    refine Ev.step1 (fun k => ?_)
    simp only [rickyardref26_In.l0]
    rw [if_neg (by simp)]
    simp
  | cons x suf ih =>
    intro pre h
    have hp : pre.length < 9223372036854775807 := by simp at h; omega
    by_cases c : x = n
    · refine Ev.step1 (fun k => ?_)
      simp only [rickyardref26_In.l0]
      rw [if_pos (by simp; omega), if_pos (by omega), rdi_mid, if_pos c]
      simp [c]
    · have := ih (pre ++ [x]) (by simpa using h)
      rw [List.append_assoc, List.singleton_append] at this
      refine Ev.eq (Ev.step (fun k => ?_) this) (by simp [show ¬ n = x from fun e => c e.symm])
      simp only [rickyardref26_In.l0]
      rw [if_pos (by simp; omega), if_pos (by omega), rdi_mid, if_neg c, nxti _ hp]
      simp
theorem in_ev (l : List Int) (n : Int) (h : l.length < 9223372036854775807) : Ev (fun k => rickyardref26_In.f k l n) (decide (n ∈ l)) := by
  have := in_l0 n l [] (by simpa using h)
  exact Ev.congr (fun k => by rfl) this
theorem index_l0 (n : Int) (suf : List Int) : ∀ pre : List Int, (pre ++ suf).length < 9223372036854775807 → ∃ r : Int, Ev (fun k => slices_Index_int_int.l0 k (pre ++ suf) n ((pre ++ suf).length : Int) (pre.length : Int)) r ∧ decide (r ≥ 0) = decide (n ∈ suf) := by
  induction suf with
  | nil =>
    intro pre h
    refine ⟨-1, Ev.step1 (fun k => ?_), by simp⟩
    simp only [slices_Index_int_int.l0]
    rw [if_neg (by simp)]
  | cons x suf ih =>
    intro pre h
    have hp : pre.length < 9223372036854775807 := by simp at h; omega
    by_cases c : n = x
    · refine ⟨(pre.length : Int), Ev.step1 (fun k => ?_), by simp [c]⟩
      simp only [slices_Index_int_int.l0]
      rw [if_pos (by simp; omega), if_pos (by omega), if_pos (by simp; omega), rdi_mid, if_pos c]
    · obtain ⟨r, h1, h2⟩ := ih (pre ++ [x]) (by simpa using h)
      rw [List.append_assoc, List.singleton_append] at h1
      refine ⟨r, Ev.step (fun k => ?_) h1, by rw [h2]; simp [c]⟩
      simp only [slices_Index_int_int.l0]
      rw [if_pos (by simp; omega), if_pos (by omega), if_pos (by simp; omega), rdi_mid, if_neg c, nxti _ hp]
      simp
theorem contains_ev (l : List Int) (n : Int) (h : l.length < 9223372036854775807) : Ev (fun k => slices_Contains_int_int.f k l n) (decide (n ∈ l)) := by
  obtain ⟨r, ⟨K, hK⟩, h2⟩ := index_l0 n l [] (by simpa using h)
  refine ⟨K, fun k hk => ?_⟩
  have := hK k hk
  simp only [slices_Contains_int_int.f, slices_Index_int_int.f]
  simp only [List.nil_append, List.length_nil] at this
  rw [show ((0 : Nat) : Int) = 0 from rfl] at this
  rw [this, Option.bind_some, h2]
theorem opL_mid (pre : List Oq) (x : Oq) (suf : List Oq) : rd_T40 (pre ++ x :: suf) (pre.length : Int) = x := by
  simp [rd_T40, List.getD_eq_getElem?_getD]
theorem rmay_l0 (suf : List Oq) : ∀ pre : List Oq, (pre ++ suf).length < 9223372036854775807 → Ev (fun k => rickyardref26_MayOps.l0 k (pre ++ suf) (pre.length : Int)) (mayB suf) := by
  induction suf with
  | nil =>
    intro pre h
    refine Ev.step1 (fun k => ?_)
    simp only [rickyardref26_MayOps.l0]
    rw [if_neg (by simp)]
    rfl
  | cons x suf ih =>
    intro pre h
    have hp : pre.length < 9223372036854775807 := by simp at h; omega
    have := ih (pre ++ [x]) (by simpa using h)
    rw [List.append_assoc, List.singleton_append] at this
    have hb : mayB (x :: suf) = (!badB x && mayB suf) := by simp [mayB, Bool.not_or]
    cases hx : badB x with
    | true =>
      refine Ev.step1 (fun k => ?_)
      rw [hb, hx]
      unfold badB at hx
      simp only [rickyardref26_MayOps.l0]
      rw [if_pos (by simp; omega), if_pos (by omega), opL_mid]
      by_cases c1 : x.f1 < 0
      · rw [if_pos c1]; rfl
      · rw [if_neg c1]
        by_cases c2 : x.f1 > 2147483648
        · rw [if_pos c2]; rfl
        · rw [if_neg c2]
          by_cases c3 : x.f2 = -1
          · simp [c1, c3] at hx; omega
          · rw [if_neg c3]
            by_cases c4 : x.f2 < x.f1
            · rw [if_pos c4]; rfl
            · rw [if_neg c4, if_pos (by simp [c1, c3, c4] at hx; omega)]; rfl
    | false =>
      rw [hb, hx]
      refine Ev.eq (Ev.step (fun k => ?_) this) (by simp)
      unfold badB at hx
      simp only [rickyardref26_MayOps.l0]
      have c1 : ¬ x.f1 < 0 := fun h => by simp [h] at hx
      have c2 : ¬ x.f1 > 2147483648 := fun h => by simp [show 2147483648 < x.f1 from h] at hx
      rw [if_pos (by simp; omega), if_pos (by omega), opL_mid, if_neg c1, if_neg c2, nxti _ hp]
      by_cases c3 : x.f2 = -1
      · rw [if_pos c3, if_neg (by omega)]; simp
      · rw [if_neg c3]
        have c4 : ¬ x.f2 < x.f1 := fun h => by simp [h, c3] at hx
        have c5 : ¬ x.f2 > 2147483648 := fun h => by simp [show 2147483648 < x.f2 from h, c3] at hx
        rw [if_neg c4, if_neg c5]; simp
theorem rmay_ev (l : List Oq) (h : l.length < 9223372036854775807) : Ev (fun k => rickyardref26_MayOps.f k l) (mayB l) := by
  have := rmay_l0 l [] (by simpa using h)
  exact Ev.congr (fun k => by rfl) this
theorem full_l0 (o : List Int) (ho : o.length < 9223372036854775807) (suf : List Oq) : ∀ pre : List Oq, (pre ++ suf).length < 9223372036854775807 →
    Ev (fun k => lin_full.l0 k o (pre ++ suf) ((pre ++ suf).length : Int) (pre.length : Int)) ((List.range suf.length).all fun i => !endB (opL suf (i : Int)) || decide (((pre.length + i : Nat) : Int) ∈ o)) := by
  induction suf with
  | nil =>
    intro pre h
    refine Ev.step1 (fun k => ?_)
    simp only [lin_full.l0]
    rw [if_neg (by simp)]
    rfl
  | cons x suf ih =>
    intro pre h
    have hp : pre.length < 9223372036854775807 := by simp at h; omega
    have hs := ih (pre ++ [x]) (by simpa using h)
    rw [List.append_assoc, List.singleton_append] at hs
    have h0 : opL (x :: suf) ((0 : Nat) : Int) = x := opL_mid [] x suf
    have hsucc : ∀ i : Nat, opL (x :: suf) ((i + 1 : Nat) : Int) = opL suf (i : Int) := fun i => by
      simp [opL, rd_T40, List.getD_eq_getElem?_getD]
    have hb : ((List.range (x :: suf).length).all fun i => !endB (opL (x :: suf) (i : Int)) || decide (((pre.length + i : Nat) : Int) ∈ o))
        = ((!endB x || decide ((pre.length : Int) ∈ o)) && (List.range suf.length).all fun i => !endB (opL suf (i : Int)) || decide ((((pre ++ [x]).length + i : Nat) : Int) ∈ o)) := by
      rw [List.length_cons, List.range_succ_eq_map, List.all_cons, List.all_map, h0]
      congr 1
      congr 1
      funext i
      simp only [Function.comp, hsucc]
      congr 3
      simp; omega
    rw [hb]
    have nx := nxti pre.length hp
    have lx : (((pre ++ [x]).length : Nat) : Int) = ((pre.length + 1 : Nat) : Int) := by simp
    cases he : endB x with
    | false =>
      refine Ev.eq (Ev.step (fun k => ?_) hs) (by simp)
      simp only [lin_full.l0]
      rw [if_pos (by simp; omega), if_pos (by omega), if_pos (by simp; omega), opL_mid]
      unfold lin_ended.f
      rw [Option.bind_some]
      unfold endB at he
      rw [he, if_neg (by simp), nx, lx]
    | true =>
      obtain ⟨K, hK⟩ := contains_ev o (pre.length : Int) ho
      by_cases c : (pre.length : Int) ∈ o
      · obtain ⟨K2, hK2⟩ := hs
        refine ⟨K + K2 + 1, fun k hk => ?_⟩
        obtain ⟨k, rfl⟩ : ∃ j, k = j + 1 := ⟨k - 1, by omega⟩
        have e1 := hK k (by omega)
        have e2 := hK2 k (by omega)
        simp only [lin_full.l0]
        rw [if_pos (by simp; omega), if_pos (by omega), if_pos (by simp; omega), opL_mid]
        unfold lin_ended.f
        rw [Option.bind_some]
        unfold endB at he
        rw [he, if_pos rfl]
        dsimp only at e1 e2
        rw [e1, Option.bind_some, decide_eq_true c, if_pos rfl, nx, ← lx, e2]
        simp
      · refine ⟨K + 1, fun k hk => ?_⟩
        obtain ⟨k, rfl⟩ : ∃ j, k = j + 1 := ⟨k - 1, by omega⟩
        have e1 := hK k (by omega)
        simp only [lin_full.l0]
        rw [if_pos (by simp; omega), if_pos (by omega), if_pos (by simp; omega), opL_mid]
        unfold lin_ended.f
        rw [Option.bind_some]
        unfold endB at he
        rw [he, if_pos rfl]
        dsimp only at e1
        rw [e1, Option.bind_some, decide_eq_false c, if_neg (by simp)]
        simp
theorem full_ev (l : List Oq) (o : List Int) (h : l.length < 9223372036854775807) (ho : o.length < 9223372036854775807) : Ev (fun k => lin_full.f k l o) (fullB l o) := by
  have := full_l0 o ho l [] (by simpa using h)
  refine Ev.eq (Ev.congr (fun k => by rfl) this) ?_
  unfold fullB
  simp
/-- seen: which places an order has had. -/
theorem places_l0 (l : List Oq) (hl : l.length < 9223372036854775807) (suf : List Int) : ∀ (pre : List Int) (seen : List Bool), (pre ++ suf).length < 9223372036854775807 → seen.length = l.length → (∀ i : Nat, i < l.length → seen.getD i false = decide ((i : Int) ∈ pre)) →
    Ev (fun k => lin_places.l0 k l seen (pre ++ suf) ((pre ++ suf).length : Int) (pre.length : Int)) (suf.all (inB l) && (decide suf.Nodup && suf.all fun x => !decide (x ∈ pre))) := by
  induction suf with
  | nil =>
    intro pre seen h _ _
    refine Ev.step1 (fun k => ?_)
    simp only [lin_places.l0]
    rw [if_neg (by simp)]
    simp
  | cons x suf ih =>
    intro pre seen h hsl hs
    have hp : pre.length < 9223372036854775807 := by simp at h; omega
    have nx := nxti pre.length hp
    by_cases c1 : x < 0
    · refine Ev.step1 (fun k => ?_)
      simp only [lin_places.l0]
      rw [if_pos (by simp; omega), if_pos (by omega), if_pos (by simp; omega), rdi_mid, if_pos c1]
      have : inB l x = false := by unfold inB; rw [decide_eq_false (show ¬ 0 ≤ x by omega)]; rfl
      simp [this]
    · by_cases c2 : x ≥ (l.length : Int)
      · refine Ev.step1 (fun k => ?_)
        simp only [lin_places.l0]
        rw [if_pos (by simp; omega), if_pos (by omega), if_pos (by simp; omega), rdi_mid, if_neg c1, if_pos c2]
        have : inB l x = false := by unfold inB; rw [decide_eq_false (show ¬ x < (l.length : Int) by omega)]; simp
        simp [this]
      · have hin : inB l x = true := by unfold inB; rw [decide_eq_true (show 0 ≤ x by omega), decide_eq_true (show x < (l.length : Int) by omega)]; rfl
        obtain ⟨i, rfl⟩ := Int.eq_ofNat_of_zero_le (show 0 ≤ x by omega)
        have hi : i < l.length := by omega
        have hsi := hs i hi
        have hrd : rdOf false seen (i : Int) = decide ((i : Int) ∈ pre) := by rw [← hsi]; rfl
        by_cases c3 : (i : Int) ∈ pre
        · refine Ev.step1 (fun k => ?_)
          simp only [lin_places.l0]
          rw [if_pos (by simp; omega), if_pos (by omega), if_pos (by simp; omega), rdi_mid, if_neg c1, if_neg c2, if_pos (by omega), if_pos (by omega), hrd, decide_eq_true c3, if_pos rfl]
          simp [c3]
        · have hs2 := ih (pre ++ [(i : Int)]) (seen.set i true) (by simpa using h) (by simp [hsl]) (fun j hj => by
            have := hs j hj
            rw [List.getD_eq_getElem?_getD] at this ⊢
            by_cases e : i = j
            · subst e
              rw [List.getElem?_set_self (by omega)]
              simp
            · rw [List.getElem?_set_ne e, this]
              have : ¬ ((j : Int) = (i : Int)) := by omega
              simp [this])
          rw [List.append_assoc, List.singleton_append] at hs2
          refine Ev.eq (Ev.step (fun k => ?_) hs2) ?_
          · simp only [lin_places.l0]
            rw [if_pos (by simp; omega), if_pos (by omega), if_pos (by simp; omega), rdi_mid, if_neg c1, if_neg c2, if_pos (by omega), if_pos (by omega), hrd, decide_eq_false c3, if_neg (by simp), nx]
            have lx : (((pre ++ [(i : Int)]).length : Nat) : Int) = ((pre.length + 1 : Nat) : Int) := by simp
            rw [lx, Int.toNat_natCast]
          · rw [List.all_cons, hin, List.all_cons, decide_eq_false c3]
            rw [Bool.eq_iff_iff]
            simp only [List.nodup_cons, Bool.true_and, Bool.and_eq_true, decide_eq_true_eq, List.all_eq_true, Bool.not_eq_true', decide_eq_false_iff_not, Bool.not_false, List.mem_append, List.mem_singleton, not_or]
            constructor
            · rintro ⟨h1, h2, h3⟩
              exact ⟨h1, ⟨fun hm => (h3 _ hm).2 rfl, h2⟩, fun y hy => (h3 y hy).1⟩
            · rintro ⟨h1, ⟨h2, h3⟩, h4⟩
              exact ⟨h1, h3, fun y hy => ⟨h4 y hy, fun e => h2 (e ▸ hy)⟩⟩
theorem places_ev (l : List Oq) (o : List Int) (h : l.length ≤ 1000) (ho : o.length < 9223372036854775807) : Ev (fun k => lin_places.f k l o) (placesB l o) := by
  have := places_l0 l (by omega) o [] (List.replicate l.length false) (by simpa using ho) (by simp) (fun i hi => by simp [List.getD_eq_getElem?_getD, hi])
  refine Ev.eq (Ev.congr (fun k => ?_) this) ?_
  · unfold lin_places.f
    rw [if_pos (by omega), if_pos (by omega)]
    rfl
  · unfold placesB
    rw [show (o.all fun x => !decide (x ∈ ([] : List Int))) = true by simp, Bool.and_true]
end Go.Proofs.Ytpddppipjlagfaa.Pure

/- lin.Fits: its contract. No statement is proved here. -/
namespace Go.Proofs.Ytpddppipjlagfaa
set_option linter.unusedVariables false
set_option linter.unusedSimpArgs false
open Go.RowKit Go.Proofs.YtpddppipjlagfaaW.PrintWords Go.Proofs.YtpddppipjlagfaaW.PrintLast Go.Proofs.YtpddppipjlagfaaW.PrintMore Pr Go.Proofs.Ytpddppipjlagfaa.Pure

def ahF (l : List Oq) : List Int → Bool
  | [] => true
  | x :: o => (o.all fun y => !ahB (opL l y) (opL l x)) && ahF l o
def deedsF (l : List Oq) (o : List Int) : List De := o.map fun x => (opL l x).f0
def fitsB (m : Int) (l : List Oq) (o : List Int) : Bool := mayB l && (placesB l o && (fullB l o && (ahF l o && (accsL m [] (deedsF l o)).2.2)))
theorem infoO_parts {P : Program} {e : TypeId} {z : Value} {s b : Nat} (h : (P.info? e).map (fun i => (i.zero, i.size, i.bytes)) = some (some z, s, b)) : ∃ i, P.info? e = some i ∧ i.zero = some z ∧ i.size = s ∧ i.bytes = b := by
  cases hi : P.info? e with
  | none => rw [hi] at h; cases h
  | some i =>
    rw [hi] at h
    have := Option.some.inj h
    simp only [Prod.mk.injEq] at this
    exact ⟨i, rfl, this.1, this.2.1, this.2.2⟩
theorem places_in {l : List Oq} {o : List Int} (h : placesB l o = true) (x : Int) (hx : x ∈ o) : 0 ≤ x ∧ x < l.length := by
  unfold placesB at h
  have h1 := (Bool.and_eq_true _ _ ▸ h).1
  have h2 := List.all_eq_true.1 h1 x hx
  unfold inB at h2
  simpa using h2
theorem nodup_len (n : Nat) : ∀ o : List Int, o.Nodup → (∀ x ∈ o, 0 ≤ x ∧ x < (n : Int)) → o.length ≤ n := by
  induction n with
  | zero =>
    intro o _ h
    cases o with
    | nil => exact Nat.le_refl _
    | cons x o => have := h x (by simp); omega
  | succ n ih =>
    intro o hn h
    have h1 := ih (o.filter fun x => x != (n : Int)) (hn.filter _) (fun x hx => by
      obtain ⟨h2, h3⟩ := List.mem_filter.1 hx
      have := h x h2
      have : x ≠ (n : Int) := by simpa using h3
      omega)
    have h2 : o.length ≤ (o.filter fun x => x != (n : Int)).length + 1 := by
      clear h ih h1
      induction o with
      | nil => simp
      | cons x o ih =>
        obtain ⟨h3, h4⟩ := List.nodup_cons.1 hn
        by_cases c : x = (n : Int)
        · subst c
          rw [List.filter_cons_of_neg (by simp), List.filter_eq_self.2 (fun y hy => by simp; intro e; exact h3 (e ▸ hy))]
          simp
        · rw [List.filter_cons_of_pos (by simpa using c)]
          have := ih h4
          simp only [List.length_cons]
          omega
    omega
theorem places_len {l : List Oq} {o : List Int} (h : placesB l o = true) : o.length ≤ l.length := by
  have h0 := places_in h
  unfold placesB at h
  exact nodup_len l.length o (by have := (Bool.and_eq_true _ _ ▸ h).2; simpa using this) h0
theorem rd_dropI (o : List Int) (k : Nat) (h : k < o.length) : o.drop k = rd o (k : Int) :: o.drop (k + 1) := by
  rw [List.drop_eq_getElem_cons h]
  simp [rd, List.getD_eq_getElem?_getD, List.getElem?_eq_getElem h]
theorem rd_memI (o : List Int) (k : Nat) (h : k < o.length) : rd o (k : Int) ∈ o := by
  simp [rd, List.getD_eq_getElem?_getD, List.getElem?_eq_getElem h]
theorem take_sucI (o : List Int) (k : Nat) (h : k < o.length) : o.take (k + 1) = o.take k ++ [rd o (k : Int)] := by
  rw [List.take_succ_eq_append_getElem h]
  simp [rd, List.getD_eq_getElem?_getD, List.getElem?_eq_getElem h]
theorem all_drop {p : Int → Bool} (t : List Int) (i : Nat) (h : i < t.length) : (t.drop i).all p = (p (rd t (i : Int)) && (t.drop (i + 1)).all p) := by
  rw [rd_dropI t i h, List.all_cons]

set_option maxRecDepth 100000 in
set_option maxHeartbeats 8000000 in
theorem fits_any (m : Int) (A : Option Addr) (c : Nat) (l : List Oq) (B : Option Addr) (cB : Nat) (o : List Int) (w : World) (hm : mOk m) (hr : Kd.C k40 w A l.length l) (hc : l.length ≤ c) (ho : Kd.C (Kd.int .i64) w B o.length o) (hcB : o.length ≤ cB) (hl : l.length ≤ 500) (hol : o.length ≤ 1000) :
    Calls Try.prog 14 #[.int .i64 m, .slice A l.length c, .slice B o.length cB] w fun e w' => e = .returned (.bool (fitsB m l o)) ∧ Below w.heap.size w w' := by
  have hu := Try.underlying40
  have hu2 := Try.underlying43
  have hu3 := Try.underlying38
  have HR := Sh.mk hr
  have HO := Sh.mk ho
  have HMM := Sh.mk hm
  have HM := Sh.mk (lin_May.calls A c l (mayB l) w hr hc (mayl_is l (by omega)))
  obtain ⟨kp, hkp⟩ := (places_ev l o (by omega) (by omega)).rounds
  obtain ⟨kf, hkf⟩ := (full_ev l o (by omega) (by omega)).rounds
  have HP : ∀ W, Below w.heap.size w W → Sh (Calls Try.prog 27 #[.slice A l.length c, .slice B o.length cB] W fun e w' => e = .returned (.bool (placesB l o)) ∧ Below W.heap.size W w') := fun W hW => ⟨lin_places.calls kp A c l B cB o _ W (Kd.C_below hr hW) hc (Kd.C_below ho hW) hcB hkp⟩
  have HF : ∀ W, Below w.heap.size w W → Sh (Calls Try.prog 25 #[.slice A l.length c, .slice B o.length cB] W fun e w' => e = .returned (.bool (fullB l o)) ∧ Below W.heap.size W w') := fun W hW => ⟨lin_full.calls kf A c l B cB o _ W (Kd.C_below hr hW) hc (Kd.C_below ho hW) hcB hkf⟩
  clear hr ho hm hkp hkf
  go_enter Try.func14, Try.ntmps14
  go_wp2_with fail
  (with_reducible refine HM.out.mono ?_); rintro e w1 ⟨rfl, b⟩
  have B1 := Sh.mk b
  clear b HM
  cases c1 : mayB l with
  | false =>
    have HV : Sh (fitsB m l o = false) := ⟨by unfold fitsB; rw [c1]; rfl⟩
    clear c1
    go_wp2
    go_ret
    exact ⟨by rw [HV.out]; rfl, B1.out⟩
  | true =>
  have C1 := Sh.mk c1
  clear c1
  go_wp2_with fail
  (with_reducible refine (HP _ B1.out).out.mono ?_); rintro e w2 ⟨rfl, b⟩
  have B2 : Sh (Below w.heap.size w w2) := ⟨below_then B1.out B1.out.size b⟩
  clear b
  cases c2 : placesB l o with
  | false =>
    have HV : Sh (fitsB m l o = false) := ⟨by unfold fitsB; rw [C1.out, c2]; rfl⟩
    clear c2
    go_wp2
    go_ret
    exact ⟨by rw [HV.out]; rfl, B2.out⟩
  | true =>
  have C2 := Sh.mk c2
  clear c2
  go_wp2_with fail
  (with_reducible refine (HF _ B2.out).out.mono ?_); rintro e w3 ⟨rfl, b⟩
  have B3 : Sh (Below w.heap.size w w3) := ⟨below_then B2.out B2.out.size b⟩
  clear b B1 B2 HP HF
  cases c3 : fullB l o with
  | false =>
    have HV : Sh (fitsB m l o = false) := ⟨by unfold fitsB; rw [C1.out, C2.out, c3]; rfl⟩
    clear c3
    go_wp2
    go_ret
    exact ⟨by rw [HV.out]; rfl, B3.out⟩
  | true =>
  have HV : Sh (fitsB m l o = (ahF l o && (accsL m [] (deedsF l o)).2.2)) := ⟨by unfold fitsB; rw [C1.out, C2.out, c3]; rfl⟩
  clear c3
  go_wp2
  go_loopw [7, 32] (fun v i wr => ∃ k, k ≤ o.length ∧ i = .int .i64 (k : Nat) ∧ Sh (ahF l o = ahF l (o.drop k)) ∧ Sh (Kd.R k38 38 wr w.heap.size (fun _ => True) v (deedsF l (o.take k))) ∧ Sh (Below w.heap.size w wr)) (fun v i _ => o.length - (intOf i).toNat)
  case atStart => exact ⟨0, Nat.zero_le _, rfl, ⟨by simp⟩, ⟨by simpa [deedsF] using Kd.R_nil _ _ _ _ _⟩, B3⟩
  case round =>
    obtain ⟨k, hk, rfl, HK, HA, HB⟩ := hrel
    by_cases hlt : k < o.length
    · have hCo := Kd.C_below HO.out HB.out
      obtain ⟨adx, rfl, hx0⟩ := Kd.at_int hCo (k : Int) (by omega) (by omega)
      rw [Int.toNat_natCast] at hx0
      obtain ⟨x, hx⟩ : ∃ x, x = rd o (k : Int) := ⟨_, rfl⟩
      have hxi := places_in C2.out x (hx ▸ rd_memI o k hlt)
      have hk1 := HK.out
      rw [rd_dropI o k hlt, ← hx, ahF] at hk1
      have HTS : Sh (deedsF l (o.take (k + 1)) = deedsF l (o.take k) ++ [(opL l x).f0]) := ⟨by rw [take_sucI o k hlt, ← hx]; simp [deedsF]⟩
      rw [← hx] at hx0
      obtain ⟨t, ht⟩ : ∃ t, t = o.drop (k + 1) := ⟨_, rfl⟩
      have htm : Sh (∀ y ∈ t, 0 ≤ y ∧ y < (l.length : Int)) := ⟨fun y hy => places_in C2.out y (List.mem_of_mem_drop (ht ▸ hy))⟩
      have htl : t.length = o.length - (k + 1) := by rw [ht]; simp
      obtain ⟨q, hq⟩ : ∃ q, q = (k : Int) + 1 := ⟨_, rfl⟩
      have q1 : IntKind.i64.wrap ((k : Int) + 1) = q := by rw [hq]; exact IntWalk.i64_in _ (by omega)
      obtain ⟨B', c', hcut, hCt, hct⟩ : ∃ B' c', (∀ W : World, (Instr.slice 24 (.slice (some adx) o.length cB) (some (.int .i64 q)) none none).run Try.prog W = .ok (.slice B' t.length c') W) ∧ Kd.C (Kd.int .i64) wr B' t.length t ∧ t.length ≤ c' := by
        obtain ⟨i3, hi3, _, hi4, _⟩ := infoO_parts info3
        have h1 := cut_from (P := Try.prog) 24 3 .i64 Try.underlying24 hi3 1 hi4 (some adx) o.length cB q (by omega) (by omega)
        have h2 := Kd.C_drop (m := k + 1) hCo (by omega) hcB
        have e : q.toNat = k + 1 := by omega
        rw [e, ← htl] at h1
        rw [← ht] at h2
        exact ⟨_, _, h1, h2, by omega⟩
      rw [← ht] at hk1
      have HT := Sh.mk hCt
      have HK1 := Sh.mk hk1
      have HTT := Sh.mk ht
      have HCT := Sh.mk hct
      have HQ := Sh.mk hq
      have htl2 : t.length ≤ 1000 := by omega
      clear hx ht hCo hCt hk1 hq htl hct
      obtain ⟨wa, hwa⟩ : ∃ x, x = wr := ⟨_, rfl⟩
      subst hwa
      go_wp2
      go_loopw [42] (fun j w2 => ∃ i, i ≤ t.length ∧ j = .int .i64 (i : Nat) ∧ Sh ((t.all fun y => !ahB (opL l y) (opL l x)) = ((t.drop i).all fun y => !ahB (opL l y) (opL l x))) ∧ Sh (Below w.heap.size w w2) ∧ Sh (Below wa.heap.size wa w2)) (fun j _ => t.length - (intOf j).toNat)
      case atStart => exact ⟨0, Nat.zero_le _, rfl, ⟨by simp⟩, HB, ⟨Below.refl _ _⟩⟩
      case round =>
        obtain ⟨i, hi, rfl, HI, HB2, HW2⟩ := hrel
        by_cases hlt2 : i < t.length
        · obtain ⟨ad2, rfl, hy0⟩ := Kd.at_int (Kd.C_below HT.out HW2.out) (i : Int) (by omega) (by omega)
          rw [Int.toNat_natCast] at hy0
          obtain ⟨y, hy⟩ : ∃ y, y = rd t (i : Int) := ⟨_, rfl⟩
          have hyi := htm.out y (hy ▸ rd_memI t i hlt2)
          have hi1 := HI.out
          rw [all_drop t i hlt2, ← hy] at hi1
          rw [← hy] at hy0
          have HI1 := Sh.mk hi1
          obtain ⟨ad, rfl, a0, a1, a2, a3, a4, a5⟩ := at_T40 (Kd.C_below HR.out HB2.out) y hyi.1 hyi.2
          obtain ⟨ad', ea, b0, b1, b2, b3, b4, b5⟩ := at_T40 (Kd.C_below HR.out HB2.out) x hxi.1 hxi.2
          cases ea
          obtain ⟨Y, hY⟩ : ∃ Y, Y = opL l y := ⟨_, rfl⟩
          obtain ⟨X, hX⟩ : ∃ X, X = opL l x := ⟨_, rfl⟩
          have HC := Sh.mk (And.intro hY hX)
          have eY : rd_T40 l y = Y := hY.symm
          have eX : rd_T40 l x = X := hX.symm
          rw [eY] at a0 a1 a2 a3 a4 a5
          rw [eX] at b0 b1 b2 b3 b4 b5
          obtain ⟨hy1, hy2⟩ := hyi
          obtain ⟨hx1, hx2⟩ := hxi
          have HAH : ∀ W, Sh (Calls Try.prog 28 #[.agg #[.int .i64 Y.f0.f0, .int .i64 Y.f0.f1, .int .i64 Y.f0.f2, .int .i64 Y.f0.f3, .int .i64 Y.f1, .int .i64 Y.f2], .agg #[.int .i64 X.f0.f0, .int .i64 X.f0.f1, .int .i64 X.f0.f2, .int .i64 X.f0.f3, .int .i64 X.f1, .int .i64 X.f2]] W fun e w' => e = .returned (.bool (ahB Y X)) ∧ Below W.heap.size W w') := fun W => ⟨lin_ahead.calls _ _ _ _ _ _ _ _ _ _ _ _ _ W (ahead_is Y X)⟩
          clear hY hX hy eY eX hi1
          have HE : ∀ W, Below wr.heap.size wr W → Sh ((W.cell? (ad.add (y.toNat * 6)) = some (.int .i64 Y.f0.f0) ∧ W.cell? ⟨(ad.add (y.toNat * 6)).block, (ad.add (y.toNat * 6)).off + 1, none⟩ = some (.int .i64 Y.f0.f1) ∧ W.cell? ⟨(ad.add (y.toNat * 6)).block, (ad.add (y.toNat * 6)).off + 2, none⟩ = some (.int .i64 Y.f0.f2) ∧ W.cell? ⟨(ad.add (y.toNat * 6)).block, (ad.add (y.toNat * 6)).off + 3, none⟩ = some (.int .i64 Y.f0.f3) ∧ W.cell? ⟨(ad.add (y.toNat * 6)).block, (ad.add (y.toNat * 6)).off + 4, none⟩ = some (.int .i64 Y.f1) ∧ W.cell? ⟨(ad.add (y.toNat * 6)).block, (ad.add (y.toNat * 6)).off + 5, none⟩ = some (.int .i64 Y.f2)) ∧ W.cell? (ad.add (x.toNat * 6)) = some (.int .i64 X.f0.f0) ∧ W.cell? ⟨(ad.add (x.toNat * 6)).block, (ad.add (x.toNat * 6)).off + 1, none⟩ = some (.int .i64 X.f0.f1) ∧ W.cell? ⟨(ad.add (x.toNat * 6)).block, (ad.add (x.toNat * 6)).off + 2, none⟩ = some (.int .i64 X.f0.f2) ∧ W.cell? ⟨(ad.add (x.toNat * 6)).block, (ad.add (x.toNat * 6)).off + 3, none⟩ = some (.int .i64 X.f0.f3) ∧ W.cell? ⟨(ad.add (x.toNat * 6)).block, (ad.add (x.toNat * 6)).off + 4, none⟩ = some (.int .i64 X.f1) ∧ W.cell? ⟨(ad.add (x.toNat * 6)).block, (ad.add (x.toNat * 6)).off + 5, none⟩ = some (.int .i64 X.f2)) := fun W hW => ⟨⟨(hW.cell (World.block_lt_of_cell? _ _ a0)).trans a0, (hW.cell (World.block_lt_of_cell? _ _ a1)).trans a1, (hW.cell (World.block_lt_of_cell? _ _ a2)).trans a2, (hW.cell (World.block_lt_of_cell? _ _ a3)).trans a3, (hW.cell (World.block_lt_of_cell? _ _ a4)).trans a4, (hW.cell (World.block_lt_of_cell? _ _ a5)).trans a5⟩, (hW.cell (World.block_lt_of_cell? _ _ b0)).trans b0, (hW.cell (World.block_lt_of_cell? _ _ b1)).trans b1, (hW.cell (World.block_lt_of_cell? _ _ b2)).trans b2, (hW.cell (World.block_lt_of_cell? _ _ b3)).trans b3, (hW.cell (World.block_lt_of_cell? _ _ b4)).trans b4, (hW.cell (World.block_lt_of_cell? _ _ b5)).trans b5⟩
          clear a0 a1 a2 a3 a4 a5 b0 b1 b2 b3 b4 b5
          have A0 := (HE wr (Below.refl _ _)).out
          go_wp2
          go_region_held3 (fun W => (W.cell? (ad.add (y.toNat * 6)) = some (.int .i64 Y.f0.f0) ∧ W.cell? ⟨(ad.add (y.toNat * 6)).block, (ad.add (y.toNat * 6)).off + 1, none⟩ = some (.int .i64 Y.f0.f1) ∧ W.cell? ⟨(ad.add (y.toNat * 6)).block, (ad.add (y.toNat * 6)).off + 2, none⟩ = some (.int .i64 Y.f0.f2) ∧ W.cell? ⟨(ad.add (y.toNat * 6)).block, (ad.add (y.toNat * 6)).off + 3, none⟩ = some (.int .i64 Y.f0.f3) ∧ W.cell? ⟨(ad.add (y.toNat * 6)).block, (ad.add (y.toNat * 6)).off + 4, none⟩ = some (.int .i64 Y.f1) ∧ W.cell? ⟨(ad.add (y.toNat * 6)).block, (ad.add (y.toNat * 6)).off + 5, none⟩ = some (.int .i64 Y.f2)) ∧ W.cell? (ad.add (x.toNat * 6)) = some (.int .i64 X.f0.f0) ∧ W.cell? ⟨(ad.add (x.toNat * 6)).block, (ad.add (x.toNat * 6)).off + 1, none⟩ = some (.int .i64 X.f0.f1) ∧ W.cell? ⟨(ad.add (x.toNat * 6)).block, (ad.add (x.toNat * 6)).off + 2, none⟩ = some (.int .i64 X.f0.f2) ∧ W.cell? ⟨(ad.add (x.toNat * 6)).block, (ad.add (x.toNat * 6)).off + 3, none⟩ = some (.int .i64 X.f0.f3) ∧ W.cell? ⟨(ad.add (x.toNat * 6)).block, (ad.add (x.toNat * 6)).off + 4, none⟩ = some (.int .i64 X.f1) ∧ W.cell? ⟨(ad.add (x.toNat * 6)).block, (ad.add (x.toNat * 6)).off + 5, none⟩ = some (.int .i64 X.f2)) (first | exact (HE _ (Below.refl _ _)).out | exact (HE _ (Below.refl _ _).drew).out | exact (HE _ B4.out).out | exact (HE _ B4.out.drew).out) ((go_at_call 28; (with_reducible refine (HAH _).out.mono ?_); rintro e w4 ⟨rfl, b⟩; have B4 : Sh (Below wr.heap.size wr w4) := ⟨by first | exact b | exact below_step (Below.refl _ _).drew b⟩; clear b))
          have HB4 : Sh (Below w.heap.size w w4) := ⟨below_then HB2.out HB2.out.size B4.out⟩
          have HW4 : Sh (Below wa.heap.size wa w4) := ⟨below_then HW2.out HW2.out.size B4.out⟩
          clear HE A0
          cases cA : ahB Y X with
          | true =>
            have hv := HV.out
            rw [HC.out.1, HC.out.2] at cA
            rw [HK1.out, HI1.out, cA] at hv
            have HV2 : Sh (fitsB m l o = false) := ⟨by simpa using hv⟩
            clear hv cA
            go_wp2
            go_ret
            exact ⟨by rw [HV2.out]; rfl, HB4.out⟩
          | false =>
            have hi3 := HI1.out
            rw [HC.out.1, HC.out.2] at cA
            rw [cA, Bool.not_false, Bool.true_and] at hi3
            have HI3 := Sh.mk hi3
            clear hi3 cA
            go_wp2
            go_roundw
            case rel => exact ⟨i + 1, by omega, by go_num, ⟨HI3.out⟩, HB4, HW4⟩
            case measure => simp [intOf]; omega
        · have hi0 := HI.out
          rw [List.drop_of_length_le (by omega), List.all_nil] at hi0
          have hk2 := HK1.out
          rw [hi0, Bool.true_and, HTT.out] at hk2
          have HK2 := Sh.mk hk2
          obtain ⟨acc, hacc⟩ : ∃ acc, acc = deedsF l (o.take k) := ⟨_, rfl⟩
          have hal : acc.length ≤ 1000 := by rw [hacc]; unfold deedsF; simp; omega
          rw [← hacc] at HA HTS
          obtain ⟨X, hX⟩ : ∃ X, X = opL l x := ⟨_, rfl⟩
          rw [← hX] at HTS
          have HA2 := Sh.mk (Kd.R_below HA.out HW2.out)
          obtain ⟨Ac, cc, eac⟩ := Kd.R_slice HA2.out
          subst eac
          obtain ⟨hx1, hx2⟩ := hxi
          obtain ⟨ad, rfl, a0, a1, a2, a3, a4, a5⟩ := at_T40 (Kd.C_below HR.out HB2.out) x hx1 hx2
          have eX : rd_T40 l x = X := hX.symm
          rw [eX] at a0 a1 a2 a3 a4 a5
          clear hi0 hk2 hacc hX eX
          go_wp2_with (first | ((with_reducible refine gate_builtin (b := .append) (xs := #[.tmp 56, .tmp 62]) rfl ?_); at_builtin; refine Kd.R_append k38 (w0 := w) w.heap.size rfl (.tmp 56) (.tmp 62) 35 38 (.agg #[(.int .i64 0), (.int .i64 0), (.int .i64 0), (.int .i64 0)]) 32 rfl Try.underlying35 info38 rfl (by decide) (by omega) (.slice Ac acc.length cc) acc X.f0 [.int .i64 X.f0.f0, .int .i64 X.f0.f1, .int .i64 X.f0.f2, .int .i64 X.f0.f3] (fun k => True) (fun _ => False) rfl rfl ?aP (fun _ hk => hk.elim) ?aF ?aO ?aB ?aS ?aL ?_; (case aP => exact k38_mkM _ _ _ X.f0); (case aB => exact HB2.out); (case aF => exact fun _ _ => trivial); (case aO => exact HA2.out); (case aS => exact HB2.out.size); (case aL => omega); intro v1 w1 ho hb hg hat; have HZ := Sh.mk ho; have HZB := Sh.mk hb; clear ho hb hg hat))
          go_roundw
          case rel => exact ⟨k + 1, by omega, by rw [HQ.out]; go_num, HK2, ⟨by rw [HTS.out]; exact HZ.out⟩, HZB⟩
          case measure => have := HQ.out; simp [intOf]; omega
    · obtain rfl : k = o.length := by omega
      have hk0 := HK.out
      rw [List.drop_length, ahF] at hk0
      have hv := HV.out
      rw [hk0, Bool.true_and] at hv
      have ha := HA.out
      rw [List.take_length] at ha
      obtain ⟨D, hD⟩ : ∃ D, D = deedsF l o := ⟨_, rfl⟩
      have hdl : D.length ≤ 1000 := by rw [hD]; unfold deedsF; simp; omega
      rw [← hD] at ha hv
      have HV2 := Sh.mk hv
      obtain ⟨Ac, cc, eac⟩ := Kd.R_slice ha
      subst eac
      have HAR := Sh.mk (Kd.R_reads' ha)
      clear ha hv hk0 hD HA
      go_wp2_with fail
      (with_reducible refine (new_any m _).mono ?_); rintro e w5 ⟨rfl, b⟩
      have B5 := Sh.mk b
      have HB5 : Sh (Below w.heap.size w w5) := ⟨below_then HB.out HB.out.size b⟩
      clear b
      go_wp2_with fail
      (with_reducible refine (accepts_anyR (l := []) HMM.out (show rtL m [] from by simp [rtL]) (by simpa using hdl) (Rd.nil _) (Kd.C_below HAR.out.2.2 B5.out) HAR.out.2.1).mono ?_); rintro e w6 ⟨u, rfl, hu, b⟩
      obtain ⟨A6, c6, rfl, -, -⟩ := hu
      have HB6 : Sh (Below w.heap.size w w6) := ⟨below_then HB5.out HB5.out.size b⟩
      clear b
      go_wp2
      go_ret
      exact ⟨by rw [HV2.out]; rfl, below_alloc HB6.out _⟩
end Go.Proofs.Ytpddppipjlagfaa

/- Orders that fit: plain law. No program in it. No statement is proved here. -/
namespace Go.Proofs.Ytpddppipjlagfaa
set_option linter.unusedVariables false
set_option linter.unusedSimpArgs false
open Go.RowKit Go.Proofs.YtpddppipjlagfaaW.PrintWords Go.Proofs.YtpddppipjlagfaaW.PrintLast Go.Proofs.YtpddppipjlagfaaW.PrintMore Pr Go.Proofs.Ytpddppipjlagfaa.Pure

theorem placesB_iff (l : List Oq) (o : List Int) : placesB l o = true ↔ (∀ x ∈ o, inB l x = true) ∧ o.Nodup := by
  unfold placesB
  simp [List.all_eq_true]
theorem placesB_pre {l : List Oq} {P S : List Int} (h : placesB l (P ++ S) = true) : placesB l P = true := by
  rw [placesB_iff] at h ⊢
  exact ⟨fun x hx => h.1 x (by simp [hx]), (List.nodup_append.1 h.2).1⟩
theorem placesB_snoc (l : List Oq) (P : List Int) (x : Int) : placesB l (P ++ [x]) = (placesB l P && (inB l x && !decide (x ∈ P))) := by
  rw [Bool.eq_iff_iff, Bool.and_eq_true, Bool.and_eq_true, placesB_iff, placesB_iff]
  simp only [List.mem_append, List.mem_singleton, Bool.not_eq_true', decide_eq_false_iff_not, List.nodup_append]
  constructor
  · rintro ⟨h1, h2, h3, h4⟩
    exact ⟨⟨fun y hy => h1 y (.inl hy), h2⟩, h1 x (.inr rfl), fun hx => h4 x hx x (by simp) rfl⟩
  · rintro ⟨⟨h1, h2⟩, h3, h4⟩
    refine ⟨?_, h2, by simp, ?_⟩
    · rintro y (hy | rfl)
      · exact h1 y hy
      · exact h3
    · rintro a ha b hb rfl
      exact h4 (hb ▸ ha)
theorem ahF_snoc (l : List Oq) (P : List Int) (x : Int) : ahF l (P ++ [x]) = (ahF l P && P.all fun p => !ahB (opL l x) (opL l p)) := by
  induction P with
  | nil => simp [ahF]
  | cons p P ih =>
    rw [List.cons_append, ahF, ih, ahF, List.all_append]
    simp only [List.all_cons, List.all_nil, Bool.and_true]
    cases (P.all fun y => !ahB (opL l y) (opL l p)) <;> cases ahB (opL l x) (opL l p) <;> cases ahF l P <;> simp
theorem ahF_pre {l : List Oq} (P S : List Int) (h : ahF l (P ++ S) = true) : ahF l P = true := by
  induction P with
  | nil => rfl
  | cons p P ih =>
    rw [List.cons_append, ahF, List.all_append] at h
    simp only [Bool.and_eq_true] at h
    rw [ahF, h.1.1, ih h.2]; rfl
theorem deedsF_app (l : List Oq) (P S : List Int) : deedsF l (P ++ S) = deedsF l P ++ deedsF l S := by simp [deedsF]
theorem deedsF_len (l : List Oq) (P : List Int) : (deedsF l P).length = P.length := by simp [deedsF]
theorem accs_pre {m : Int} {P S : List De} (h : (accsL m [] (P ++ S)).2.2 = true) : (accsL m [] P).2.2 = true := by
  by_cases c : (accsL m [] P).2.2 = true
  · exact c
  · have := (accs_app m P S []).2 (by simpa using c)
    rw [this] at h
    exact h
theorem accs_snoc {m : Int} (P : List De) (d : De) : (accsL m [] (P ++ [d])).2.2 = ((accsL m [] P).2.2 && (accR m (accsL m [] P).1 d).2.2) := by
  cases c : (accsL m [] P).2.2 with
  | true =>
    rw [((accs_app m P [d] []).1 c).2]
    rw [accsL]
    split
    · next h => rw [h]; rfl
    · next h => simp only [Bool.true_and]; simpa using h
  | false => rw [(accs_app m P [d] []).2 c, c]; rfl
theorem accs_snoc1 {m : Int} (P : List De) (d : De) (h : (accsL m [] P).2.2 = true) (h2 : (accR m (accsL m [] P).1 d).2.2 = true) : (accsL m [] (P ++ [d])).1 = (accR m (accsL m [] P).1 d).2.1 := by
  rw [((accs_app m P [d] []).1 h).2]
  dsimp only
  rw [accsL, if_pos h2]
  rfl
/-- Does a place go behind an order, as the document has it? -/
def mayN (m : Int) (l : List Oq) (P : List Int) (y : Int) : Bool := !decide (y ∈ P) && ((P.all fun p => !ahB (opL l y) (opL l p)) && (accsL m [] (deedsF l (P ++ [y]))).2.2)
/-- Does a place go behind an order, as the program has it? -/
def nxtN (m : Int) (l : List Oq) (P : List Int) (q : List Lv) (y : Int) : Bool := !decide (y ∈ P) && (((List.range l.length).all fun i => !(((i : Int) != y) && (ahB (opL l (i : Int)) (opL l y) && !decide ((i : Int) ∈ P)))) && (accR m q (opL l y).f0).2.2)
section
variable {m : Int} {l : List Oq}
theorem fits_iff (o : List Int) : fitsB m l o = true ↔ mayB l = true ∧ placesB l o = true ∧ fullB l o = true ∧ ahF l o = true ∧ (accsL m [] (deedsF l o)).2.2 = true := by
  unfold fitsB
  simp only [Bool.and_eq_true]
theorem fits_may {P S : List Int} {y : Int} (h : fitsB m l (P ++ y :: S) = true) : mayN m l P y = true := by
  rw [fits_iff] at h
  obtain ⟨-, h2, -, h4, h5⟩ := h
  rw [show P ++ y :: S = (P ++ [y]) ++ S by simp] at h2 h4 h5
  have h2 := placesB_pre h2
  have h4 := ahF_pre _ _ h4
  rw [deedsF_app] at h5
  have h5 := accs_pre h5
  rw [placesB_snoc] at h2
  rw [ahF_snoc] at h4
  simp only [Bool.and_eq_true] at h2 h4
  unfold mayN
  rw [h5, h2.2.2, h4.2]; rfl
theorem fits_nxt {P S : List Int} {y : Int} (h : fitsB m l (P ++ y :: S) = true) : nxtN m l P (accsL m [] (deedsF l P)).1 y = true := by
  rw [fits_iff] at h
  obtain ⟨-, h2, h3, h4, h5⟩ := h
  have h4' := h4
  rw [show P ++ y :: S = (P ++ [y]) ++ S by simp] at h2 h4 h5
  have h2 := placesB_pre h2
  have h4 := ahF_pre _ _ h4
  rw [deedsF_app] at h5
  have h5 := accs_pre h5
  rw [placesB_snoc] at h2
  simp only [Bool.and_eq_true] at h2
  rw [deedsF_app, show deedsF l [y] = [(opL l y).f0] from rfl, accs_snoc] at h5
  simp only [Bool.and_eq_true] at h5
  unfold nxtN
  rw [h5.2, h2.2.2, Bool.true_and, Bool.and_true, List.all_eq_true]
  intro i hi
  have hi := List.mem_range.1 hi
  rw [Bool.not_eq_true', Bool.eq_false_iff]
  intro hc
  simp only [Bool.and_eq_true, bne_iff_ne, ne_eq, Bool.not_eq_true', decide_eq_false_iff_not] at hc
  obtain ⟨c1, c2, c3⟩ := hc
  have h6 := List.all_eq_true.1 h3 i (List.mem_range.2 hi)
  have he : endB (opL l (i : Int)) = true := by unfold ahB at c2; simp only [Bool.and_eq_true] at c2; exact c2.1
  rw [he] at h6
  have h7 : (i : Int) ∈ P ++ y :: S := by simpa using h6
  simp only [List.mem_append, List.mem_cons] at h7
  rcases h7 with h7 | h7 | h7
  · exact c3 h7
  · exact c1 h7
  · have : ∀ (P : List Int), ahF l (P ++ y :: S) = true → ahF l (y :: S) = true := by
      intro P
      induction P with
      | nil => exact fun h => h
      | cons p P ih =>
        intro h
        rw [List.cons_append, ahF] at h
        simp only [Bool.and_eq_true] at h
        exact ih h.2
    have h8 := this P h4'
    rw [ahF] at h8
    simp only [Bool.and_eq_true] at h8
    have := List.all_eq_true.1 h8.1 _ h7
    rw [c2] at this
    exact absurd this (by simp)
/-- An order that a search has come to. -/
structure Good (m : Int) (l : List Oq) (P : List Int) : Prop where
  places : placesB l P = true
  ah : ahF l P = true
  acc : (accsL m [] (deedsF l P)).2.2 = true
  cl : ∀ p ∈ P, ∀ i : Nat, i < l.length → ahB (opL l (i : Int)) (opL l p) = true → (i : Int) ∈ P
theorem Good.nil (m : Int) (l : List Oq) : Good m l [] := ⟨rfl, rfl, rfl, fun p hp => by cases hp⟩
theorem may_at (h : mayB l = true) {y : Int} (hy : inB l y = true) : badB (opL l y) = false := by
  unfold mayB at h
  rw [Bool.not_eq_true'] at h
  have h2 := List.any_eq_false.1 h
  unfold inB at hy
  simp only [Bool.and_eq_true, decide_eq_true_eq] at hy
  have := h2 (opL l y) (by
    unfold opL rd_T40
    rw [List.getD_eq_getElem?_getD, List.getElem?_eq_getElem (by omega)]
    exact List.getElem_mem _)
  simpa using this
theorem not_self (h : mayB l = true) {y : Int} (hy : inB l y = true) : ahB (opL l y) (opL l y) = false := by
  have := may_at h hy
  unfold badB at this
  unfold ahB endB
  rw [Bool.eq_false_iff]
  intro hc
  simp only [Bool.and_eq_true, bne_iff_ne, ne_eq, decide_eq_true_eq] at hc
  simp [hc.1, hc.2] at this
theorem Good.snoc (hm : mayB l = true) {P : List Int} (h : Good m l P) {y : Int} (hy : inB l y = true) (hn : nxtN m l P (accsL m [] (deedsF l P)).1 y = true) :
    Good m l (P ++ [y]) := by
  unfold nxtN at hn
  simp only [Bool.and_eq_true] at hn
  obtain ⟨h1, h2, h3⟩ := hn
  have h1' : ¬ y ∈ P := by simpa using h1
  refine ⟨?_, ?_, ?_, ?_⟩
  · rw [placesB_snoc, h.places, hy, h1]; rfl
  · rw [ahF_snoc, h.ah, Bool.true_and, List.all_eq_true]
    intro p hp
    rw [Bool.not_eq_true', Bool.eq_false_iff]
    intro hc
    unfold inB at hy
    simp only [Bool.and_eq_true, decide_eq_true_eq] at hy
    obtain ⟨j, rfl⟩ := Int.eq_ofNat_of_zero_le hy.1
    exact h1' (h.cl p hp j (by omega) hc)
  · rw [deedsF_app, show deedsF l [y] = [(opL l y).f0] from rfl, accs_snoc, h.acc, h3]; rfl
  · intro p hp i hi hc
    rw [List.mem_append] at hp ⊢
    rcases hp with hp | hp
    · exact .inl (h.cl p hp i hi hc)
    · obtain rfl : p = y := by simpa using hp
      by_cases e : (i : Int) = p
      · exact .inr (by simp [e])
      · have := List.all_eq_true.1 h2 i (List.mem_range.2 hi)
        rw [hc] at this
        simp [e] at this
        exact .inl this
theorem Good.fits (hm : mayB l = true) {P : List Int} (h : Good m l P) : fitsB m l P = fullB l P := by
  unfold fitsB
  rw [hm, h.places, h.ah, h.acc]
  simp
end
end Go.Proofs.Ytpddppipjlagfaa

/- The search for the first order that fits: plain law. No program in it. No statement is proved here. -/
namespace Go.Proofs.Ytpddppipjlagfaa
set_option linter.unusedVariables false
set_option linter.unusedSimpArgs false
open Go.RowKit Go.Proofs.YtpddppipjlagfaaW.PrintWords Go.Proofs.YtpddppipjlagfaaW.PrintLast Go.Proofs.YtpddppipjlagfaaW.PrintMore Pr Go.Proofs.Ytpddppipjlagfaa.Pure Go.Proofs.Ytpddppipjlagfaa.Dfs

def upI (P : List Nat) : List Int := P.map fun (x : Nat) => (x : Int)
theorem upI_len (P : List Nat) : (upI P).length = P.length := by simp [upI]
theorem upI_app (P S : List Nat) : upI (P ++ S) = upI P ++ upI S := by simp [upI]
theorem upI_mem {P : List Nat} {x : Nat} : (x : Int) ∈ upI P ↔ x ∈ P := by
  unfold upI
  rw [List.mem_map]
  constructor
  · rintro ⟨y, h1, h2⟩
    have h3 : (y : Int) = (x : Int) := h2
    have : y = x := by omega
    exact this ▸ h1
  · intro h
    exact ⟨x, h, rfl⟩
def FN (m : Int) (l : List Oq) (P : List Nat) : Prop := fitsB m l (upI P) = true
section
variable {m : Int} {l : List Oq}
structure SI (m : Int) (l : List Oq) (P : List Nat) (f : Nat) : Prop where
  lf : ∀ Q, FN m l Q → left P f Q
  nf : ∀ k, k < P.length → ¬ FN m l (P.take k)
  n0 : 0 < f → ¬ FN m l P
  pl : placesB l (upI P) = true
  fl : f ≤ l.length
theorem SI.start (m : Int) (l : List Oq) : SI m l [] 0 := ⟨fun Q _ => left_start Q, fun k h => absurd h (by simp), fun h => absurd h (by simp), rfl, Nat.zero_le _⟩
theorem SI.lt {P : List Nat} {f : Nat} (h : SI m l P f) : ∀ p ∈ P, p < l.length := fun p hp => by
  have := (placesB_iff l (upI P)).1 h.pl
  have := this.1 p (upI_mem.2 hp)
  unfold inB at this
  simp at this
  omega
theorem SI.len {P : List Nat} {f : Nat} (h : SI m l P f) : P.length ≤ l.length := by
  have := places_len h.pl
  rwa [upI_len] at this
theorem SI.done {P : List Nat} {f : Nat} (h : SI m l P f) (hF : FN m l P) : IsOrd (FN m l) (some P) := by
  refine ⟨hF, fun Q hQ => ?_⟩
  by_cases c : 0 < f
  · exact absurd hF (h.n0 c)
  · have := h.lf Q hQ
    rwa [show f = 0 by omega] at this
theorem SI.push {P : List Nat} {f x : Nat} (h : SI m l P f) (hF : ¬ FN m l P) (hx : f ≤ x) (hx2 : x < l.length) (hnew : ¬ (x : Int) ∈ upI P) (hno : ∀ y, f ≤ y → y < x → ∀ S, ¬ FN m l (P ++ y :: S)) :
    SI m l (P ++ [x]) 0 := by
  refine ⟨fun Q hQ => left_push (h.lf Q hQ) hx (fun y S h1 h2 e => hno y h1 h2 S (e ▸ hQ)) (fun e => hF (e ▸ hQ)), fun k hk => ?_, fun h0 => absurd h0 (by simp), ?_, Nat.zero_le _⟩
  · rw [List.length_append, List.length_singleton] at hk
    by_cases c : k = P.length
    · subst c
      rw [List.take_left]
      exact hF
    · rw [List.take_append_of_le_length (by omega)]
      exact h.nf k (by omega)
  · rw [upI_app, show upI [x] = [(x : Int)] from rfl, placesB_snoc, h.pl]
    have : inB l (x : Int) = true := by unfold inB; simp; omega
    rw [this]
    simpa using hnew
theorem SI.pop {P : List Nat} {f x : Nat} (h : SI m l (P ++ [x]) f) (hF : ¬ FN m l (P ++ [x])) (hno : ∀ y, f ≤ y → ∀ S, ¬ FN m l ((P ++ [x]) ++ y :: S)) : SI m l P (x + 1) := by
  have hP : ¬ FN m l P := by
    have := h.nf P.length (by simp)
    rwa [List.take_left] at this
  refine ⟨fun Q hQ => left_pop (h.lf Q hQ) (fun y S h1 e => hno y h1 S (e ▸ hQ)) (fun _ e => hF (e ▸ hQ)), fun k hk => ?_, fun _ => hP, ?_, ?_⟩
  · have := h.nf k (by simp; omega)
    rwa [List.take_append_of_le_length (by omega)] at this
  · have := h.pl
    rw [upI_app] at this
    exact placesB_pre this
  · have := h.lt x (by simp)
    omega
theorem SI.none {f : Nat} (h : SI m l [] f) (hF : ¬ FN m l []) (hno : ∀ y, f ≤ y → ∀ S, ¬ FN m l ([] ++ y :: S)) : IsOrd (FN m l) none :=
  fun Q hQ => left_end (h.lf Q hQ) (fun y S h1 e => hno y h1 S (by rw [List.nil_append, ← e]; exact hQ)) (fun _ e => hF (e ▸ hQ))
theorem no_out {P : List Nat} {y : Nat} (hy : l.length ≤ y) (S : List Nat) : ¬ FN m l (P ++ y :: S) := fun h => by
  unfold FN at h
  rw [fits_iff] at h
  have := (placesB_iff _ _).1 h.2.1
  have := this.1 (y : Int) (upI_mem.2 (by simp))
  unfold inB at this
  simp at this
  omega
theorem no_nxt {P : List Nat} {y : Nat} (hn : nxtN m l (upI P) (accsL m [] (deedsF l (upI P))).1 (y : Int) = false) (S : List Nat) : ¬ FN m l (P ++ y :: S) := fun h => by
  unfold FN at h
  rw [upI_app, show upI (y :: S) = (y : Int) :: upI S from rfl] at h
  have := fits_nxt h
  rw [hn] at this
  cases this
theorem no_may {P : List Nat} {y : Nat} (hn : mayN m l (upI P) (y : Int) = false) (S : List Nat) : ¬ FN m l (P ++ y :: S) := fun h => by
  unfold FN at h
  rw [upI_app, show upI (y :: S) = (y : Int) :: upI S from rfl] at h
  have := fits_may h
  rw [hn] at this
  cases this
theorem nxt_new {P : List Int} {q : List Lv} {y : Int} (h : nxtN m l P q y = true) : ¬ y ∈ P := by
  unfold nxtN at h
  simp only [Bool.and_eq_true] at h
  simpa using h.1
theorem may_new {P : List Int} {y : Int} (h : mayN m l P y = true) : ¬ y ∈ P := by
  unfold mayN at h
  simp only [Bool.and_eq_true] at h
  simpa using h.1
/-- The answer that Order is to give. -/
def ordP (m : Int) (l : List Oq) (r : Option (List Nat)) : Prop := if mayB l = true ∧ l.length ≤ 8 then IsOrd (FN m l) r else r = none
theorem ordP_uniq {r s : Option (List Nat)} (h : ordP m l r) (h' : ordP m l s) : r = s := by
  unfold ordP at h h'
  split at h
  · next c =>
    rw [if_pos c] at h'
    exact ord_uniq h h'
  · next c =>
    rw [if_neg c] at h'
    rw [h, h']
theorem mayB_of {r : Option (List Nat)} (h : ordP m l r) {P : List Nat} (hr : r = some P) : mayB l = true ∧ l.length ≤ 8 ∧ FN m l P := by
  unfold ordP at h
  split at h
  · next c => subst hr; exact ⟨c.1, c.2, h.1⟩
  · subst hr; cases h
end
end Go.Proofs.Ytpddppipjlagfaa
