/- Several texts in one: LinGiven, Prx23, LinAwake, Prx27. -/
import Derived.Test.YtpddppipjlagfaaLinLaw
import Derived.Test.YtpddppipjlagfaaPrx0
import Derived.Test.YtpddppipjlagfaaLinOrder
import Derived.Test.YtpddppipjlagfaaPrx26
/- The order that lin.Order finds, as one answer; the places by beginnings. No statement is proved here. -/
namespace Go.Proofs.Ytpddppipjlagfaa.Pure
set_option linter.unusedVariables false
open Go.RowKit Go.Proofs.YtpddppipjlagfaaW.PrintWords Go.Proofs.YtpddppipjlagfaaW.PrintLast Go.Proofs.YtpddppipjlagfaaW.PrintMore Pr Go.Proofs.Ytpddppipjlagfaa.Dfs

/-- The first of some numbers that gives an answer. -/
def scanN {α : Type} (f : Nat → Option α) : Nat → Nat → Option α
  | 0, _ => none
  | c + 1, x => match f x with | some r => some r | none => scanN f c (x + 1)
theorem scanN_none {α : Type} {f : Nat → Option α} : ∀ (c x : Nat), scanN f c x = none → ∀ y, x ≤ y → y < x + c → f y = none
  | 0, x, _, y, h1, h2 => absurd h1 (by omega)
  | c + 1, x, h, y, h1, h2 => by
    rw [scanN] at h
    cases e : f x with
    | some r => rw [e] at h; cases h
    | none =>
      rw [e] at h
      by_cases g : y = x
      · rw [g]; exact e
      · exact scanN_none c (x + 1) h y (by omega) (by omega)
theorem scanN_some {α : Type} {f : Nat → Option α} {r : α} : ∀ (c x : Nat), scanN f c x = some r → ∃ y, x ≤ y ∧ y < x + c ∧ f y = some r ∧ ∀ z, x ≤ z → z < y → f z = none
  | 0, x, h => by cases h
  | c + 1, x, h => by
    rw [scanN] at h
    cases e : f x with
    | some q =>
      rw [e] at h
      cases h
      exact ⟨x, Nat.le_refl _, by omega, e, fun z h1 h2 => absurd h1 (by omega)⟩
    | none =>
      rw [e] at h
      obtain ⟨y, h1, h2, h3, h4⟩ := scanN_some c (x + 1) h
      refine ⟨y, by omega, by omega, h3, fun z h5 h6 => ?_⟩
      by_cases g : z = x
      · rw [g]; exact e
      · exact h4 z (by omega) h6
/-- The first list, by its places, that a test takes. -/
def firstL (n : Nat) : Nat → (List Nat → Bool) → Option (List Nat)
  | 0, F => if F [] = true then some [] else none
  | d + 1, F => if F [] = true then some [] else scanN (fun x => (firstL n d (fun S => F (x :: S))).map (fun S => x :: S)) n 0
theorem firstL_ord (n : Nat) : ∀ (d : Nat) (F : List Nat → Bool), (∀ P, F P = true → P.length ≤ d ∧ ∀ p ∈ P, p < n) → IsOrd (fun P => F P = true) (firstL n d F) := by
  intro d
  induction d with
  | zero =>
    intro F hF
    unfold firstL
    by_cases h0 : F [] = true
    · rw [if_pos h0]
      exact ⟨h0, fun Q _ => left_start Q⟩
    · rw [if_neg h0]
      intro Q hQ
      have := (hF Q hQ).1
      obtain rfl := List.eq_nil_of_length_eq_zero (Nat.le_zero.1 this)
      exact h0 hQ
  | succ d ih =>
    intro F hF
    have ih2 : ∀ x, IsOrd (fun P => F (x :: P) = true) (firstL n d (fun S => F (x :: S))) := fun x => ih (fun S => F (x :: S)) (fun P hP => by
      have h := hF _ hP
      exact ⟨by have := h.1; simpa using this, fun p hp => h.2 p (List.mem_cons_of_mem _ hp)⟩)
    unfold firstL
    by_cases h0 : F [] = true
    · rw [if_pos h0]
      exact ⟨h0, fun Q _ => left_start Q⟩
    · rw [if_neg h0]
      cases e : scanN (fun x => (firstL n d (fun S => F (x :: S))).map (fun S => x :: S)) n 0 with
      | none =>
        intro Q hQ
        cases Q with
        | nil => exact h0 hQ
        | cons y S =>
          have h1 := scanN_none n 0 e y (Nat.zero_le _) (by have := (hF _ hQ).2 y List.mem_cons_self; omega)
          have h2 := ih2 y
          rw [Option.map_eq_none_iff.1 h1] at h2
          exact h2 S hQ
      | some R =>
        obtain ⟨y, _, _, h3, h4⟩ := scanN_some n 0 e
        obtain ⟨S, hS, rfl⟩ := Option.map_eq_some_iff.1 h3
        have h2 := ih2 y
        rw [hS] at h2
        refine ⟨h2.1, fun Q hQ => ?_⟩
        cases Q with
        | nil => exact absurd hQ h0
        | cons z T =>
          by_cases g : z = y
          · subst g
            exact .inr ⟨rfl, h2.2 T hQ⟩
          · by_cases g2 : z < y
            · have h5 := ih2 z
              rw [Option.map_eq_none_iff.1 (h4 z (Nat.zero_le _) g2)] at h5
              exact absurd hQ (h5 T)
            · exact .inl (by omega)
/-- The order that Order finds. -/
def ordF (m : Int) (l : List Oq) : Option (List Nat) := if mayB l = true ∧ l.length ≤ 8 then firstL l.length l.length (fun P => fitsB m l (upI P)) else none
theorem ordF_spec (m : Int) (l : List Oq) : ordP m l (ordF m l) := by
  unfold ordP ordF
  by_cases c : mayB l = true ∧ l.length ≤ 8
  · rw [if_pos c, if_pos c]
    refine firstL_ord l.length l.length (fun P => fitsB m l (upI P)) (fun P hP => ?_)
    have h := (fits_iff (upI P)).1 hP
    refine ⟨?_, fun p hp => ?_⟩
    · have := places_len h.2.1
      rwa [upI_len] at this
    · have := (places_in h.2.1 p (upI_mem.2 hp)).2
      omega
  · rw [if_neg c, if_neg c]
theorem ordF_is {m : Int} {l : List Oq} {r : Option (List Nat)} (h : ordP m l r) : ordF m l = r := ordP_uniq (ordF_spec m l) h
/-- The place, at most k, ahead of which a beginning goes. -/
def posF (l : List Oq) (out : List Int) (b : Int) : Nat → Nat
  | 0 => 0
  | k + 1 => if b < (opL l (rd out (k : Int))).f1 then posF l out b k else k + 1
theorem posF_le (l : List Oq) (out : List Int) (b : Int) : ∀ k, posF l out b k ≤ k
  | 0 => Nat.le_refl _
  | k + 1 => by
    unfold posF
    split
    · exact Nat.le_succ_of_le (posF_le l out b k)
    · exact Nat.le_refl _
def putF (l : List Oq) (out : List Int) (i : Nat) : List Int := out.take (posF l out (opL l (i : Int)).f1 out.length) ++ [(i : Int)] ++ out.drop (posF l out (opL l (i : Int)).f1 out.length)
theorem putF_len (l : List Oq) (out : List Int) (i : Nat) : (putF l out i).length = out.length + 1 := by
  have := posF_le l out (opL l (i : Int)).f1 out.length
  simp [putF]
  omega
def sortU (l : List Oq) : Nat → List Int
  | 0 => []
  | n + 1 => putF l (sortU l n) n
theorem sortU_len (l : List Oq) : ∀ n, (sortU l n).length = n
  | 0 => rfl
  | n + 1 => by rw [sortU, putF_len, sortU_len l n]
theorem sortU_in (l : List Oq) : ∀ n, ∀ x ∈ sortU l n, 0 ≤ x ∧ x < n
  | 0, x, h => by simp [sortU] at h
  | n + 1, x, h => by
    have ih := sortU_in l n x
    rw [sortU, putF] at h
    rcases List.mem_append.1 h with h | h
    · rcases List.mem_append.1 h with h | h
      · have := ih (List.mem_of_mem_take h)
        omega
      · simp at h
        omega
    · have := ih (List.mem_of_mem_drop h)
      omega
def sortF (l : List Oq) : List Int := sortU l l.length
end Go.Proofs.Ytpddppipjlagfaa.Pure

-- Printed by a program of this session (wip/tools/myprint.py) that runs the kit's print with contracts of this session's own.
namespace Go.Proofs.Ytpddppipjlagfaa.Pr
open Go.RowKit Go.Proofs.YtpddppipjlagfaaW.PrintWords Go.Proofs.YtpddppipjlagfaaW.PrintLast Go.Proofs.YtpddppipjlagfaaW.PrintMore
attribute [local go_sem] max2_int min2_int max_two min_two max_three min_three max_four min_four   -- for this text's walks alone
set_option linter.unusedVariables false
set_option linter.unusedSimpArgs false

/-! ### lin_Order: function 13 (a contract of this session's own) -/
def lin_Order.f (a0 : Int) (l1 : List S40) : Option (List Int × Bool) := if (0 ≤ a0 ∧ a0 ≤ 16384) ∧ l1.length ≤ 500 then some (upI ((Pure.ordF a0 l1).getD []), (Pure.ordF a0 l1).isSome) else none
theorem lin_Order.calls (a0 : Int) (A1 : Option Addr) (c1 : Nat) (l1 : List S40) (r1 : List Int) (r2 : Bool) (w : World) (hr1 : Kd.C k40 w A1 l1.length l1) (hc1 : l1.length ≤ c1) (h : lin_Order.f a0 l1 = some (r1, r2)) :
  Calls Try.prog 13 #[.int .i64 a0, .slice A1 l1.length c1] w fun e w' => ∃ v0_ : Value, e = .returned (.tuple #[v0_, .bool r2]) ∧ Kd.R (Kd.int .i64) 3 w' w.heap.size (fun _ => True) v0_ r1 ∧ Below w.heap.size w w' := by
 unfold lin_Order.f at h
 split at h
 next hl =>
  cases h
  refine (order_any a0 A1 c1 l1 w ⟨hl.1.1, hl.1.2⟩ hr1 hc1 hl.2).mono (fun e w' h => ?_)
  obtain ⟨r, h1, v, h2, h3, h4⟩ := h
  rw [Pure.ordF_is h1]
  exact ⟨v, h2, h3, h4⟩
 next => cases h

end Go.Proofs.Ytpddppipjlagfaa.Pr

/- The statements' example. No statement is proved here. -/
namespace Go.Proofs.Ytpddppipjlagfaa
set_option linter.unusedVariables false
set_option linter.unusedSimpArgs false
open Go.RowKit Go.Proofs.YtpddppipjlagfaaW.PrintWords Go.Proofs.YtpddppipjlagfaaW.PrintLast Go.Proofs.YtpddppipjlagfaaW.PrintMore Pr Go.Proofs.Ytpddppipjlagfaa.Pure Go.Proofs.Ytpddppipjlagfaa.Dfs

def exL : List Oq := [⟨⟨2, 0, 0, 0⟩, 2, 3⟩, ⟨⟨1, 32, 0, 0⟩, 0, 1⟩]
theorem ex_fits : fitsB 64 exL [1, 0] = true := by decide +kernel
theorem ex_ord : ordP 64 exL (some [1, 0]) := by
  unfold ordP
  rw [if_pos ⟨by decide +kernel, by decide⟩]
  refine ⟨ex_fits, fun Q hQ => ?_⟩
  have h := (fits_iff (upI Q)).1 hQ
  obtain ⟨-, h2, h3, h4, -⟩ := h
  rw [placesB_iff] at h2
  have e0 : (0 : Int) ∈ upI Q := by
    have := List.all_eq_true.1 h3 0 (by decide)
    simpa [exL, opL, rd_T40, endB] using this
  have e1 : (1 : Int) ∈ upI Q := by
    have := List.all_eq_true.1 h3 1 (by decide)
    simpa [exL, opL, rd_T40, endB] using this
  have hl := places_len ((placesB_iff exL (upI Q)).2 h2)
  rw [upI_len] at hl
  have hl : Q.length ≤ 2 := hl
  have e0' : 0 ∈ Q := upI_mem.1 e0
  have e1' : 1 ∈ Q := upI_mem.1 e1
  match Q, hl with
  | [], _ => cases e0'
  | [x], _ => simp at e0' e1'; omega
  | [x, y], _ =>
    simp only [List.mem_cons, List.not_mem_nil, or_false] at e0' e1'
    have hx : (x = 1 ∧ y = 0) ∨ (x = 0 ∧ y = 1) := by omega
    rcases hx with ⟨rfl, rfl⟩ | ⟨rfl, rfl⟩
    · exact left_refl _
    · exact absurd h4 (by decide +kernel)
theorem sameInts_from (l : List Int) (hl : l.length ≤ 1000) (d : Nat) : ∀ (k : Nat) (i : Int), 0 ≤ i → i ≤ l.length → (l.length : Int) - i = d → d < k → Pr.rickyardref1_SameInts.l0 k l l i = some true := by
  induction d with
  | zero =>
    intro k i h0 h1 hd hk
    obtain ⟨k, rfl⟩ : ∃ m, k = m + 1 := ⟨k - 1, by omega⟩
    simp only [Pr.rickyardref1_SameInts.l0]
    rw [if_neg (by omega)]
  | succ d ih =>
    intro k i h0 h1 hd hk
    obtain ⟨k, rfl⟩ : ∃ m, k = m + 1 := ⟨k - 1, by omega⟩
    simp only [Pr.rickyardref1_SameInts.l0]
    rw [if_pos (by omega), if_pos h0, if_pos (by omega), if_pos trivial, w64 (by omega) (by omega)]
    exact ih k (i + 1) (by omega) (by omega) (by omega) (by omega)
theorem sameInts_refl (l : List Int) (hl : l.length ≤ 1000) : Pr.rickyardref1_SameInts.f (l.length + 1) l l = some true := by
  unfold Pr.rickyardref1_SameInts.f
  rw [if_pos rfl]
  exact sameInts_from l hl l.length _ 0 (by omega) (by omega) (by omega) (by omega)
theorem same_any (l : List Int) (hl : l.length ≤ 1000) (A0 : Option Addr) (c0 : Nat) (A1 : Option Addr) (c1 : Nat) (w : World) (h0 : Kd.C (Kd.int .i64) w A0 l.length l) (hc0 : l.length ≤ c0) (h1 : Kd.C (Kd.int .i64) w A1 l.length l) (hc1 : l.length ≤ c1) :
    Calls Try.prog 19 #[.slice A0 l.length c0, .slice A1 l.length c1] w fun e w' => e = .returned (.bool true) ∧ Below w.heap.size w w' :=
  (rickyardref1_SameInts.calls (l.length + 1) A0 c0 l A1 c1 l true w h0 hc0 h1 hc1 (sameInts_refl l hl)).mono (fun e w' ⟨h1, h2⟩ => ⟨h1, h2.below⟩)
theorem C_ex {W : World} {g : Nat} (hb : W.heap[g]? = some (.cells #[.int .i64 2, .int .i64 0, .int .i64 0, .int .i64 0, .int .i64 2, .int .i64 3, .int .i64 1, .int .i64 32, .int .i64 0, .int .i64 0, .int .i64 0, .int .i64 1] 40 (0, 0))) : Kd.C k40 W (some ⟨g, 0, none⟩) exL.length exL :=
  (Kd.R_reads' (R_of_ownE_op (l := exL) (base := g) (ok := fun _ => True) (v := .slice (some ⟨g, 0, none⟩) 2 2) ⟨rfl, .inr ⟨g, 2, _, rfl, Nat.le_refl _, hb, Nat.le_refl _, by decide, rfl, rfl⟩⟩ (fun _ _ => trivial))).2.2
theorem C_two {W : World} {g : Nat} (hb : W.heap[g]? = some (.cells #[.int .i64 1, .int .i64 0] 3 (0, 0))) : Kd.C (Kd.int .i64) W (some ⟨g, 0, none⟩) ([1, 0] : List Int).length [1, 0] := by
  have h : Kd.R (Kd.int .i64) 3 W g (fun _ => True) (.slice (some ⟨g, 0, none⟩) 2 2) ([1, 0] : List Int) :=
    ⟨fun _ _ => trivial, [.int .i64 1, .int .i64 0], ⟨rfl, .inr ⟨g, 2, #[.int .i64 1, .int .i64 0], rfl, Nat.le_refl _, hb, Nat.le_refl _, by decide, rfl, rfl⟩⟩, ⟨rfl, fun j p hj => by
      match j, hj with
      | 0, hj => obtain rfl : (1 : Int) = p := by simpa using hj
                 rfl
      | 1, hj => obtain rfl : (0 : Int) = p := by simpa using hj
                 rfl
      | j + 2, hj => simp at hj⟩⟩
  exact (Kd.R_reads' h).2.2
set_option maxRecDepth 100000 in
set_option maxHeartbeats 8000000 in
theorem lawake_any (w : World) : Calls Try.prog 9 #[] w fun e w' => e = .returned (.bool true) ∧ Below w.heap.size w w' := by
  have hu := Try.underlying40
  have hu3 := Try.underlying38
  have hm : mOk 64 := by decide
  have HM := Sh.mk hm
  have HA : Sh ((((w.alloc (.cells #[.int .i64 1, .int .i64 32, .int .i64 0, .int .i64 0, .int .i64 0, .int .i64 1] 40)).alloc (.cells #[.int .i64 2, .int .i64 0, .int .i64 0, .int .i64 0, .int .i64 2, .int .i64 3] 40)).alloc (.cells #[.int .i64 2, .int .i64 0, .int .i64 0, .int .i64 0, .int .i64 2, .int .i64 3, .int .i64 1, .int .i64 32, .int .i64 0, .int .i64 0, .int .i64 0, .int .i64 1] 40)).heap[w.heap.size]? = some (.cells #[.int .i64 1, .int .i64 32, .int .i64 0, .int .i64 0, .int .i64 0, .int .i64 1] 40 (0, 0))) := ⟨blk_alloc (blk_alloc (blk_new _ _) _) _⟩
  have HB : Sh ((((w.alloc (.cells #[.int .i64 1, .int .i64 32, .int .i64 0, .int .i64 0, .int .i64 0, .int .i64 1] 40)).alloc (.cells #[.int .i64 2, .int .i64 0, .int .i64 0, .int .i64 0, .int .i64 2, .int .i64 3] 40)).alloc (.cells #[.int .i64 2, .int .i64 0, .int .i64 0, .int .i64 0, .int .i64 2, .int .i64 3, .int .i64 1, .int .i64 32, .int .i64 0, .int .i64 0, .int .i64 0, .int .i64 1] 40)).heap[w.heap.size + 1]? = some (.cells #[.int .i64 2, .int .i64 0, .int .i64 0, .int .i64 0, .int .i64 2, .int .i64 3] 40 (0, 0))) := ⟨blk_alloc (by have h := blk_new (w.alloc (.cells #[.int .i64 1, .int .i64 32, .int .i64 0, .int .i64 0, .int .i64 0, .int .i64 1] 40)) (.cells #[.int .i64 2, .int .i64 0, .int .i64 0, .int .i64 0, .int .i64 2, .int .i64 3] 40); simpa using h) _⟩
  have HE : Sh ((((w.alloc (.cells #[.int .i64 1, .int .i64 32, .int .i64 0, .int .i64 0, .int .i64 0, .int .i64 1] 40)).alloc (.cells #[.int .i64 2, .int .i64 0, .int .i64 0, .int .i64 0, .int .i64 2, .int .i64 3] 40)).alloc (.cells #[.int .i64 2, .int .i64 0, .int .i64 0, .int .i64 0, .int .i64 2, .int .i64 3, .int .i64 1, .int .i64 32, .int .i64 0, .int .i64 0, .int .i64 0, .int .i64 1] 40)).heap[w.heap.size + 1 + 1]? = some (.cells #[.int .i64 2, .int .i64 0, .int .i64 0, .int .i64 0, .int .i64 2, .int .i64 3, .int .i64 1, .int .i64 32, .int .i64 0, .int .i64 0, .int .i64 0, .int .i64 1] 40 (0, 0))) := ⟨by have h := blk_new ((w.alloc (.cells #[.int .i64 1, .int .i64 32, .int .i64 0, .int .i64 0, .int .i64 0, .int .i64 1] 40)).alloc (.cells #[.int .i64 2, .int .i64 0, .int .i64 0, .int .i64 0, .int .i64 2, .int .i64 3] 40)) (.cells #[.int .i64 2, .int .i64 0, .int .i64 0, .int .i64 0, .int .i64 2, .int .i64 3, .int .i64 1, .int .i64 32, .int .i64 0, .int .i64 0, .int .i64 0, .int .i64 1] 40); simpa using h⟩
  have HOA : Sh (Calls Try.prog 13 #[.int .i64 64, .slice (some ⟨w.heap.size + 1 + 1, 0, none⟩) 2 2] (((w.alloc (.cells #[.int .i64 1, .int .i64 32, .int .i64 0, .int .i64 0, .int .i64 0, .int .i64 1] 40)).alloc (.cells #[.int .i64 2, .int .i64 0, .int .i64 0, .int .i64 0, .int .i64 2, .int .i64 3] 40)).alloc (.cells #[.int .i64 2, .int .i64 0, .int .i64 0, .int .i64 0, .int .i64 2, .int .i64 3, .int .i64 1, .int .i64 32, .int .i64 0, .int .i64 0, .int .i64 0, .int .i64 1] 40)) (OrdPost 64 exL (((w.alloc (.cells #[.int .i64 1, .int .i64 32, .int .i64 0, .int .i64 0, .int .i64 0, .int .i64 1] 40)).alloc (.cells #[.int .i64 2, .int .i64 0, .int .i64 0, .int .i64 0, .int .i64 2, .int .i64 3] 40)).alloc (.cells #[.int .i64 2, .int .i64 0, .int .i64 0, .int .i64 0, .int .i64 2, .int .i64 3, .int .i64 1, .int .i64 32, .int .i64 0, .int .i64 0, .int .i64 0, .int .i64 1] 40)))) := ⟨order_any 64 (some ⟨w.heap.size + 1 + 1, 0, none⟩) 2 exL _ HM.out (C_ex HE.out) (by decide) (by decide)⟩
  have HW : Sh (Below w.heap.size w (((w.alloc (.cells #[.int .i64 1, .int .i64 32, .int .i64 0, .int .i64 0, .int .i64 0, .int .i64 1] 40)).alloc (.cells #[.int .i64 2, .int .i64 0, .int .i64 0, .int .i64 0, .int .i64 2, .int .i64 3] 40)).alloc (.cells #[.int .i64 2, .int .i64 0, .int .i64 0, .int .i64 0, .int .i64 2, .int .i64 3, .int .i64 1, .int .i64 32, .int .i64 0, .int .i64 0, .int .i64 0, .int .i64 1] 40))) := ⟨below_alloc (below_alloc (below_alloc (Below.refl _ _) _) _) _⟩
  clear hm
  go_enter Try.func9, Try.ntmps9
  go_wp2_with fail
  (with_reducible refine HOA.out.mono ?_); rintro e w1 ⟨r, hr, v, rfl, hv, bb⟩
  obtain rfl := ordP_uniq hr ex_ord
  rw [show upI ((some [1, 0] : Option (List Nat)).getD []) = [1, 0] from rfl] at hv
  obtain ⟨A1, c1, rfl⟩ := Kd.R_slice hv
  have HV := Sh.mk (Kd.R_reads' hv)
  have HA1 := Sh.mk (blk_below HA.out bb)
  have HB1 := Sh.mk (blk_below HB.out bb)
  have HW1 : Sh (Below w.heap.size w w1) := ⟨below_step HW.out bb⟩
  clear bb hv hr HA HB HE HW
  have HT : Sh ((w1.alloc (.cells #[.int .i64 1, .int .i64 0] 3)).heap[w1.heap.size]? = some (.cells #[.int .i64 1, .int .i64 0] 3 (0, 0))) := ⟨blk_new _ _⟩
  have HSA : Sh (Calls Try.prog 19 #[.slice A1 2 c1, .slice (some ⟨w1.heap.size, 0, none⟩) 2 2] (w1.alloc (.cells #[.int .i64 1, .int .i64 0] 3)) fun e w' => e = .returned (.bool true) ∧ Below (w1.alloc (.cells #[.int .i64 1, .int .i64 0] 3)).heap.size (w1.alloc (.cells #[.int .i64 1, .int .i64 0] 3)) w') := ⟨same_any [1, 0] (by decide) A1 c1 (some ⟨w1.heap.size, 0, none⟩) 2 _ (Kd.C_alloc HV.out.2.2 _) HV.out.2.1 (C_two HT.out) (by decide)⟩
  go_wp2_with fail
  (with_reducible refine HSA.out.mono ?_); rintro e w2 ⟨rfl, bb⟩
  have BB2 : Sh (Below w1.heap.size w1 w2) := ⟨below_step (below_alloc (Below.refl _ _) _) bb⟩
  have HW2 : Sh (Below w.heap.size w w2) := ⟨below_then HW1.out HW1.out.size BB2.out⟩
  have HA2 := Sh.mk (blk_below HA1.out BB2.out)
  have HB2 := Sh.mk (blk_below HB1.out BB2.out)
  clear bb
  have a0 : w2.cell? ⟨w.heap.size, 0, none⟩ = some (.int .i64 1) := (blk_cell HA2.out 0).trans rfl
  have a1 : w2.cell? ⟨w.heap.size, 1, none⟩ = some (.int .i64 32) := (blk_cell HA2.out 1).trans rfl
  have a2 : w2.cell? ⟨w.heap.size, 2, none⟩ = some (.int .i64 0) := (blk_cell HA2.out 2).trans rfl
  have a3 : w2.cell? ⟨w.heap.size, 3, none⟩ = some (.int .i64 0) := (blk_cell HA2.out 3).trans rfl
  have a4 : w2.cell? ⟨w.heap.size, 4, none⟩ = some (.int .i64 0) := (blk_cell HA2.out 4).trans rfl
  have a5 : w2.cell? ⟨w.heap.size, 5, none⟩ = some (.int .i64 1) := (blk_cell HA2.out 5).trans rfl
  have b0 : w2.cell? ⟨w.heap.size + 1, 0, none⟩ = some (.int .i64 2) := (blk_cell HB2.out 0).trans rfl
  have b1 : w2.cell? ⟨w.heap.size + 1, 1, none⟩ = some (.int .i64 0) := (blk_cell HB2.out 1).trans rfl
  have b2 : w2.cell? ⟨w.heap.size + 1, 2, none⟩ = some (.int .i64 0) := (blk_cell HB2.out 2).trans rfl
  have b3 : w2.cell? ⟨w.heap.size + 1, 3, none⟩ = some (.int .i64 0) := (blk_cell HB2.out 3).trans rfl
  have b4 : w2.cell? ⟨w.heap.size + 1, 4, none⟩ = some (.int .i64 2) := (blk_cell HB2.out 4).trans rfl
  have b5 : w2.cell? ⟨w.heap.size + 1, 5, none⟩ = some (.int .i64 3) := (blk_cell HB2.out 5).trans rfl
  have HFA : Sh (Calls Try.prog 14 #[.int .i64 64, .slice (some ⟨w2.heap.size, 0, none⟩) 2 2, .slice A1 2 c1] (w2.alloc (.cells #[.int .i64 2, .int .i64 0, .int .i64 0, .int .i64 0, .int .i64 2, .int .i64 3, .int .i64 1, .int .i64 32, .int .i64 0, .int .i64 0, .int .i64 0, .int .i64 1] 40)) fun e w' => e = .returned (.bool (fitsB 64 exL [1, 0])) ∧ Below (w2.alloc (.cells #[.int .i64 2, .int .i64 0, .int .i64 0, .int .i64 0, .int .i64 2, .int .i64 3, .int .i64 1, .int .i64 32, .int .i64 0, .int .i64 0, .int .i64 0, .int .i64 1] 40)).heap.size (w2.alloc (.cells #[.int .i64 2, .int .i64 0, .int .i64 0, .int .i64 0, .int .i64 2, .int .i64 3, .int .i64 1, .int .i64 32, .int .i64 0, .int .i64 0, .int .i64 0, .int .i64 1] 40)) w') := ⟨fits_any 64 (some ⟨w2.heap.size, 0, none⟩) 2 exL A1 c1 [1, 0] _ HM.out (C_ex (blk_new _ _)) (by decide) (Kd.C_alloc (Kd.C_below HV.out.2.2 BB2.out) _) HV.out.2.1 (by decide) (by decide)⟩
  go_wp2_with fail
  (with_reducible refine HFA.out.mono ?_); rintro e w3 ⟨rfl, bb⟩
  rw [ex_fits]
  have HW3 : Sh (Below w.heap.size w w3) := ⟨below_step (below_alloc HW2.out _) bb⟩
  clear bb
  go_wp2
  go_ret
  exact ⟨rfl, HW3.out⟩
end Go.Proofs.Ytpddppipjlagfaa

-- Printed by a program of this session (wip/tools/myprint.py) that runs the kit's print with contracts of this session's own.
namespace Go.Proofs.Ytpddppipjlagfaa.Pr
open Go.RowKit Go.Proofs.YtpddppipjlagfaaW.PrintWords Go.Proofs.YtpddppipjlagfaaW.PrintLast Go.Proofs.YtpddppipjlagfaaW.PrintMore
attribute [local go_sem] max2_int min2_int max_two min_two max_three min_three max_four min_four   -- for this text's walks alone
set_option linter.unusedVariables false
set_option linter.unusedSimpArgs false

/-! ### rickyardlaw27_awake: function 9 (a contract of this session's own) -/
def rickyardlaw27_awake.f : Option Bool := some true
theorem rickyardlaw27_awake.calls (r : Bool) (w : World) (h : rickyardlaw27_awake.f = some r) :
  Calls Try.prog 9 #[] w fun e w' => e = .returned (.bool r) ∧ Below w.heap.size w w' := by
 cases h
 exact lawake_any w

end Go.Proofs.Ytpddppipjlagfaa.Pr
