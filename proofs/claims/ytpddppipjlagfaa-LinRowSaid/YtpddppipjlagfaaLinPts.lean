/- A list begun elsewhere, the places of its members as they were, and the order by their times. No statement is proved here. -/
import Derived.Test.YtpddppipjlagfaaLinOps
import Derived.Test.YtpddppipjlagfaaPrx38
namespace Go.Proofs.Ytpddppipjlagfaa.Pure
set_option linter.unusedVariables false
set_option linter.unusedSimpArgs false
open Go.RowKit Go.Proofs.YtpddppipjlagfaaW.PrintWords Go.Proofs.YtpddppipjlagfaaW.PrintLast Go.Proofs.YtpddppipjlagfaaW.PrintMore Pr Go.Proofs.Ytpddppipjlagfaa.Dfs

theorem w64n {x : Int} {n : Nat} (h : x = (n : Int)) (hn : n < 9223372036854775807) : wrap64 x = (n : Int) := by
  rw [h]
  exact w64 (by omega) (by omega)
/-! ### Lists of places -/
theorem incr_len : ∀ (s : List Nat) (a b : Nat), s.Pairwise (· < ·) → (∀ x ∈ s, a ≤ x ∧ x < b) → s.length ≤ b - a
  | [], _, _, _, _ => Nat.zero_le _
  | x :: s, a, b, hp, h => by
    have h1 := h x List.mem_cons_self
    have h2 := incr_len s (x + 1) b (List.pairwise_cons.1 hp).2 (fun y hy => ⟨(List.pairwise_cons.1 hp).1 y hy, (h y (List.mem_cons_of_mem _ hy)).2⟩)
    rw [List.length_cons]
    omega
theorem incr_is : ∀ (s : List Nat) (a : Nat), s.Pairwise (· < ·) → (∀ x ∈ s, a ≤ x ∧ x < a + s.length) → s = List.range' a s.length
  | [], _, _, _ => rfl
  | x :: s, a, hp, h => by
    have h1 := h x List.mem_cons_self
    have hs := List.pairwise_cons.1 hp
    have h2 := incr_len s (x + 1) (a + (x :: s).length) hs.2 (fun y hy => ⟨hs.1 y hy, (h y (List.mem_cons_of_mem _ hy)).2⟩)
    rw [List.length_cons] at h1 h2
    have e : x = a := by omega
    subst e
    have ih := incr_is s (x + 1) hs.2 (fun y hy => ⟨hs.1 y hy, by have := (h y (List.mem_cons_of_mem _ hy)).2; rw [List.length_cons] at this; omega⟩)
    rw [List.length_cons, List.range'_succ]
    rw [← ih]
theorem incr_range {n : Nat} {s : List Nat} (hp : s.Pairwise (· < ·)) (h : ∀ x ∈ s, x < n) (hl : s.length = n) : s = List.range n := by
  have := incr_is s 0 hp (fun x hx => ⟨Nat.zero_le _, by have := h x hx; omega⟩)
  rw [hl] at this
  rw [this, List.range_eq_range']
theorem cover_len : ∀ (n : Nat) (R : List Nat), (∀ p, p < n → p ∈ R) → n ≤ R.length
  | 0, _, _ => Nat.zero_le _
  | n + 1, R, h => by
    have h1 := h n (by omega)
    have h2 := cover_len n (R.erase n) (fun p hp => (List.mem_erase_of_ne (by omega)).2 (h p (by omega)))
    rw [List.length_erase_of_mem h1] at h2
    have : 0 < R.length := List.length_pos_of_mem h1
    omega
/-! ### Orders -/
theorem ahF_iff (l : List Oq) : ∀ o : List Int, ahF l o = true ↔ o.Pairwise (fun x y => ahB (opL l y) (opL l x) = false)
  | [] => by simp [ahF]
  | x :: o => by
    rw [ahF, Bool.and_eq_true, List.pairwise_cons, ahF_iff l o, List.all_eq_true]
    constructor
    · rintro ⟨h1, h2⟩
      exact ⟨fun y hy => by have := h1 y hy; simpa using this, h2⟩
    · rintro ⟨h1, h2⟩
      exact ⟨fun y hy => by have := h1 y hy; simpa using this, h2⟩
theorem ahF_up (l : List Oq) (P : List Nat) : ahF l (upI P) = true ↔ P.Pairwise (fun (p q : Nat) => ahB (opL l (q : Int)) (opL l (p : Int)) = false) := by
  rw [ahF_iff]
  unfold upI
  exact List.pairwise_map
/-! ### A list begun elsewhere -/
section
variable {L : List Oq} {j n : Nat}
theorem drop_at (hn : L.length = n) (hj : j < n) {p : Nat} (hp : p < n) : opL (L.drop j ++ L.take j) (p : Int) = opL L (((p + j) % n : Nat) : Int) := by
  unfold opL rd_T40
  rw [Int.toNat_natCast, Int.toNat_natCast, List.getD_eq_getElem?_getD, List.getD_eq_getElem?_getD]
  by_cases c : p + j < n
  · rw [List.getElem?_append_left (by rw [List.length_drop]; omega), List.getElem?_drop, Nat.mod_eq_of_lt c, Nat.add_comm]
  · have e : (p + j) % n = p + j - n := by rw [Nat.mod_eq_sub_mod (by omega), Nat.mod_eq_of_lt (by omega)]
    rw [List.getElem?_append_right (by rw [List.length_drop]; omega), List.length_drop, List.getElem?_take, if_pos (by omega), e]
    congr 2
    omega
theorem mod_inj (hj : j < n) {p q : Nat} (hp : p < n) (hq : q < n) (h : (p + j) % n = (q + j) % n) : p = q := by
  have e : ∀ r, r < n → (r + j) % n = if r + j < n then r + j else r + j - n := fun r hr => by
    split
    · next c => exact Nat.mod_eq_of_lt c
    · next c => rw [Nat.mod_eq_sub_mod (by omega), Nat.mod_eq_of_lt (by omega)]
  rw [e p hp, e q hq] at h
  split at h <;> split at h <;> omega
theorem mod_back (hj : j < n) {i : Nat} (hi : i < n) : ((i + n - j) % n + j) % n = i := by
  have e : (i + n - j) % n = if j ≤ i then i - j else i + n - j := by
    split
    · next c => rw [Nat.mod_eq_sub_mod (by omega), Nat.mod_eq_of_lt (by omega)]; omega
    · next c => exact Nat.mod_eq_of_lt (by omega)
  rw [e]
  split
  · next c => rw [show i - j + j = i by omega]; exact Nat.mod_eq_of_lt hi
  · next c => rw [show i + n - j + j = i + n by omega, Nat.add_mod_right]; exact Nat.mod_eq_of_lt hi
/-- Where the members are, one behind the other as they were. -/
def ptsL (n j k : Nat) : List Nat := (List.range k).map (fun i => (i + n - j) % n)
theorem ptsL_len (n j k : Nat) : (ptsL n j k).length = k := by simp [ptsL]
theorem ptsL_succ (n j k : Nat) : ptsL n j (k + 1) = ptsL n j k ++ [(k + n - j) % n] := by simp [ptsL, List.range_succ]
theorem ptsL_lt (hj : j < n) {k : Nat} : ∀ p ∈ ptsL n j k, p < n := fun p hp => by
  unfold ptsL at hp
  obtain ⟨i, _, rfl⟩ := List.mem_map.1 hp
  exact Nat.mod_lt _ (by omega)
theorem ptsL_mem (hj : j < n) {p : Nat} (hp : p < n) : p ∈ ptsL n j n := by
  unfold ptsL
  refine List.mem_map.2 ⟨(p + j) % n, List.mem_range.2 (Nat.mod_lt _ (by omega)), ?_⟩
  exact mod_inj hj (Nat.mod_lt _ (by omega)) hp (mod_back hj (Nat.mod_lt _ (by omega)))
theorem ptsL_nodup (hj : j < n) : (ptsL n j n).Nodup := by
  unfold ptsL
  refine List.pairwise_map.2 ?_
  refine List.Pairwise.imp_of_mem ?_ (List.pairwise_lt_range (n := n))
  intro a b ha hb hab e
  have h1 := mod_back hj (List.mem_range.1 ha)
  have h2 := mod_back hj (List.mem_range.1 hb)
  rw [e, h2] at h1
  omega
end
/-- Deeds that are done one by one, each within its time. -/
structure inT (L : List Oq) : Prop where
  may : mayB L = true
  len : L.length ≤ 8
  tms : ∀ i, i < L.length → 0 ≤ (opL L (i : Int)).f1 ∧ (opL L (i : Int)).f1 ≤ 20 * (i : Int) ∧ ((opL L (i : Int)).f2 = -1 ∨ 20 * (i : Int) + 1 ≤ (opL L (i : Int)).f2)
/-- Their deeds. -/
def dsL (L : List Oq) (k : Nat) : List De := (List.range k).map (fun (i : Nat) => (opL L (i : Int)).f0)
theorem dsL_len (L : List Oq) (k : Nat) : (dsL L k).length = k := by simp [dsL]
theorem dsL_succ (L : List Oq) (k : Nat) : dsL L (k + 1) = dsL L k ++ [(opL L (k : Int)).f0] := by simp [dsL, List.range_succ]
theorem opsF_inT (m : Int) (ns t : List Int) (ht : ∀ x ∈ t, (Lit.int .u8 x).wf = true) : inT (opsF m ns t) := by
  refine ⟨mayB_all.2 (opsF_may m ns t ht), opsF_len m ns t, fun i hi => ?_⟩
  have h := opsF_at m ns t ht i hi
  refine ⟨h.b0, h.b1, ?_⟩
  rcases h.e1 with h | h
  · exact .inl h
  · exact .inr h.1
theorem dropTake_may {L : List Oq} (h : mayB L = true) (j : Nat) : mayB (L.drop j ++ L.take j) = true := mayB_all.2 (fun x hx => by
  rcases List.mem_append.1 hx with hx | hx
  · exact mayB_all.1 h x (List.mem_of_mem_drop hx)
  · exact mayB_all.1 h x (List.mem_of_mem_take hx))
section
variable {m : Int} {L : List Oq} {j n : Nat}
/-- The order by these times. -/
theorem pts_FN (h : inT L) (hn : L.length = n) (hj : j < n) (ha : (accsL m [] (dsL L n)).2.2 = true) : FN m (L.drop j ++ L.take j) (ptsL n j n) := by
  have hlen : (L.drop j ++ L.take j).length = n := by rw [List.length_append, List.length_drop, List.length_take]; omega
  have hat : ∀ i, i < n → opL (L.drop j ++ L.take j) (((i + n - j) % n : Nat) : Int) = opL L (i : Int) := fun i hi => by
    rw [drop_at hn hj (Nat.mod_lt _ (by omega)), mod_back hj hi]
  refine FN_mk (dropTake_may h.may j) (ptsL_nodup hj) (fun p hp => by rw [hlen]; exact ptsL_lt hj p hp) (fun i hi _ => ptsL_mem hj (by rw [hlen] at hi; exact hi)) ?_ ?_
  · refine (ahF_up _ _).2 ?_
    unfold ptsL
    refine List.pairwise_map.2 ?_
    refine List.Pairwise.imp_of_mem ?_ (List.pairwise_lt_range (n := n))
    intro a b ha hb hab
    have ha := List.mem_range.1 ha
    have hb := List.mem_range.1 hb
    rw [hat a ha, hat b hb]
    have h1 := h.tms a (by omega)
    have h2 := h.tms b (by omega)
    unfold ahB endB
    rcases h2.2.2 with h3 | h3
    · rw [h3]
      rfl
    · rw [show decide ((opL L (b : Int)).f2 < (opL L (a : Int)).f1) = false from decide_eq_false (by omega), Bool.and_false]
  · have e : (ptsL n j n).map (fun (p : Nat) => (opL (L.drop j ++ L.take j) (p : Int)).f0) = dsL L n := by
      unfold ptsL dsL
      rw [List.map_map]
      refine List.map_congr_left (fun i hi => ?_)
      show (opL (L.drop j ++ L.take j) (((i + n - j) % n : Nat) : Int)).f0 = _
      rw [hat i (List.mem_range.1 hi)]
    rw [e]
    exact ha
end
theorem turnF_pos {l : List Oq} {n : Nat} (hn : l.length = n) (h0 : 0 < n) (a : Int) : ∃ j, j < n ∧ a % (n : Int) = (j : Int) ∧ turnF l a = l.drop j ++ l.take j := by
  have h1 : 0 ≤ a % (n : Int) := Int.emod_nonneg _ (by omega)
  have h2 : a % (n : Int) < (n : Int) := Int.emod_lt_of_pos _ (by omega)
  refine ⟨(a % (n : Int)).toNat, by omega, by omega, ?_⟩
  unfold turnF
  rw [if_neg (by omega), hn]
/-! ### ahead -/
theorem rd_pre (pre : List Int) (x : Int) (s : List Int) : rd (pre ++ x :: s) (pre.length : Int) = x := rdi_mid pre x s
theorem ahead_no : ∀ (A B : List Nat) (pre : List Int) (k : Nat), left B 0 A → (pre ++ upI A).length ≤ 1000 → (pre ++ upI B).length ≤ 1000 → rickyardlaw27_ahead.l0 (k + 2 * A.length + 2) (pre ++ upI A) (pre ++ upI B) (pre.length : Int) = some false
  | A, [], pre, k, _, h1, h2 => by
    have e1 : ¬ ((pre.length : Int) < ((pre ++ upI []).length : Int)) := by simp [upI]
    have e2 : decide ((pre.length : Int) < ((pre ++ upI []).length : Int)) = false := decide_eq_false e1
    have e3 : decide (((pre ++ upI A).length : Int) < ((pre ++ upI []).length : Int)) = false := decide_eq_false (by simp [upI]; omega)
    rw [rickyardlaw27_ahead.l0, e2]
    by_cases c : (pre.length : Int) < ((pre ++ upI A).length : Int)
    · rw [if_pos c, rickyardlaw27_ahead.j1, if_neg (by simp), e3]
    · rw [if_neg c, rickyardlaw27_ahead.j1, if_neg (by simp), e3]
  | [], b :: B, _, _, h, _, _ => h.elim
  | a :: A, b :: B, pre, k, h, h1, h2 => by
    have hA : pre ++ upI (a :: A) = pre ++ (a : Int) :: upI A := rfl
    have hB : pre ++ upI (b :: B) = pre ++ (b : Int) :: upI B := rfl
    rw [hA] at h1
    rw [hB] at h2
    have c1 : (pre.length : Int) < ((pre ++ (a : Int) :: upI A).length : Int) := by simp; omega
    have c2 : (pre.length : Int) < ((pre ++ (b : Int) :: upI B).length : Int) := by simp; omega
    rw [hA, hB, show k + 2 * (a :: A).length + 2 = (k + 2 * A.length + 2) + 1 + 1 by simp; omega, rickyardlaw27_ahead.l0, if_pos c1, decide_eq_true c2, rickyardlaw27_ahead.j1, if_pos rfl, if_pos (by omega), if_pos c1, if_pos c2, rd_pre, rd_pre]
    by_cases c : a = b
    · subst c
      rw [if_pos rfl]
      have h3 : left B 0 A := by
        rcases h with h | h
        · omega
        · exact h.2
      have ih := ahead_no A B (pre ++ [(a : Int)]) k h3 (by simpa using h1) (by simpa using h2)
      have w : wrap64 ((pre.length : Int) + 1) = ((pre ++ [(a : Int)]).length : Int) := by
        have : pre.length ≤ 1000 := by simp at h1; omega
        rw [w64 (by omega) (by omega)]
        simp
      rw [w]
      simpa using ih
    · rw [if_neg (by omega)]
      have : b < a := by
        rcases h with h | h
        · exact h
        · exact absurd h.1.symm c
      rw [show decide (((a : Nat) : Int) < ((b : Nat) : Int)) = false from decide_eq_false (by omega)]
end Go.Proofs.Ytpddppipjlagfaa.Pure
