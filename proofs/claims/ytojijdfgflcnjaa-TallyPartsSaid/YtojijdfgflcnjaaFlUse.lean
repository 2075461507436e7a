/- How many words lists of pieces have, and how much of what is given out is live: contracts. No statement is proved here. -/
import Derived.Test.YtojijdfgflcnjaaFlShare
import Derived.Test.YtojijdfgflcnjaaConcat
import Derived.Test.YtojijdfgflcnjaaPure
import Derived.Deep.RegionHeld3
import Derived.Test.YtojijdfgflcnjaaPrx4
import Derived.Test.YtojijdfgflcnjaaPrx4
import Derived.Test.YtojijdfgflcnjaaPrx4
namespace Go.Proofs.Ytojijdfgflcnjaa
set_option linter.unusedVariables false
set_option linter.unusedSimpArgs false
open Go.RowKit Go.Proofs.YtojijdfgflcnjaaW.PrintWords Go.Proofs.YtojijdfgflcnjaaW.PrintLast Go.Proofs.YtojijdfgflcnjaaW.PrintMore Fl Pr

namespace Pure
def hw1 (x : Pc) : Int := if 1 ≤ x.f1 ∧ x.f1 ≤ 2147483648 then x.f1 else 0
def hsum : List Pc → Int
  | [] => 0
  | x :: l => hw1 x + hsum l
theorem hw1_bd (x : Pc) : 0 ≤ hw1 x ∧ hw1 x ≤ 2147483648 := by unfold hw1; split <;> omega
theorem hsum_bd (l : List Pc) : 0 ≤ hsum l ∧ hsum l ≤ 2147483648 * l.length := by
  induction l with
  | nil => simp [hsum]
  | cons x l ih => have := hw1_bd x; simp only [hsum, List.length_cons]; omega
theorem hsum_append (a b : List Pc) : hsum (a ++ b) = hsum a + hsum b := by
  induction a with
  | nil => simp [hsum]
  | cons x l ih => simp only [List.cons_append, hsum, ih]; omega
theorem prd_mid (pre : List Pc) (x : Pc) (suf : List Pc) : rd_T78 (pre ++ x :: suf) (pre.length : Int) = x := by
  simp [rd_T78]
theorem pmid_lt (pre : List Pc) (x : Pc) (suf : List Pc) : (pre.length : Int) < ((pre ++ x :: suf).length : Int) := by
  simp; omega
theorem pnn (n : Nat) : (0 : Int) ≤ (n : Int) := Int.natCast_nonneg n
theorem pnxt (pre : List Pc) (x : Pc) (h : pre.length < 9223372036854775807) : wrap64 ((pre.length : Int) + 1) = ((pre ++ [x]).length : Int) := by
  rw [w64 (by omega) (by omega)]; simp
theorem pend_nlt (pre : List Pc) : ¬ ((pre.length : Int) < ((pre ++ []).length : Int)) := by simp
theorem psnoc (pre : List Pc) (x : Pc) (suf : List Pc) : pre ++ x :: suf = (pre ++ [x]) ++ suf := by simp
theorem words_l0 (suf : List Pc) : ∀ (pre : List Pc) (s : Int), 0 ≤ s → s + 2147483648 * suf.length ≤ 4611686018427387904 → (pre ++ suf).length < 9223372036854775807 →
    Ev (fun k => tally_words.l0 k s (pre ++ suf) ((pre ++ suf).length : Int) (pre.length : Int)) (s + hsum suf) := by
  induction suf with
  | nil =>
    intro pre s _ _ _
    refine Ev.eq (r := s) (Ev.step1 (fun k => ?_)) (by simp [hsum])
    simp only [tally_words.l0]
    rw [if_neg (pend_nlt pre)]
  | cons x suf ih =>
    intro pre s hs hb h3
    have hl : pre.length < 9223372036854775807 := by simp at h3; omega
    have hx := hw1_bd x
    simp only [List.length_cons] at hb
    have := ih (pre ++ [x]) (s + hw1 x) (by omega) (by omega) (by simpa using h3)
    rw [← psnoc] at this
    refine Ev.eq (Ev.step (fun k => ?_) this) (by simp only [hsum]; omega)
    simp only [tally_words.l0]
    rw [if_pos (pmid_lt pre x suf), if_pos (pnn _), if_pos (pmid_lt pre x suf), prd_mid, pnxt pre x hl]
    unfold hw1 at *
    by_cases c1 : x.f1 ≥ 1
    · by_cases c2 : x.f1 ≤ 2147483648
      · rw [if_pos c1, if_pos c2, if_pos ⟨c1, c2⟩, w64 (by omega) (by omega)]
      · rw [if_pos c1, if_neg c2, if_neg (fun h => c2 h.2), Int.add_zero]
    · rw [if_neg c1, if_neg (fun h => c1 h.1), Int.add_zero]
theorem words_ev (R : List (List Pc)) (h1 : R.length ≤ 1000000) (h : R.flatten.length ≤ 10000) : Ev (fun k => tally_words.f k R) (hsum R.flatten) := by
  have := words_l0 R.flatten [] 0 (by omega) (by omega) (by simp only [List.nil_append]; omega)
  refine Ev.eq (Ev.congr (fun k => ?_) this) (by omega)
  show tally_words.f k R = _
  unfold tally_words.f
  have e : api_Piece.f R = some R.flatten := by unfold api_Piece.f; rw [if_pos ⟨h1, by omega⟩]
  rw [e]
  rfl
theorem held_l0 (suf : List Pc) : ∀ (pre : List Pc) (s : Int), 0 ≤ s → s + 2147483648 * suf.length ≤ 4611686018427387904 → (pre ++ suf).length < 9223372036854775807 →
    Ev (fun k => rickyardref26_held.l0 k (pre ++ suf) s (pre.length : Int)) (s + hsum suf) := by
  induction suf with
  | nil =>
    intro pre s _ _ _
    refine Ev.eq (r := s) (Ev.step1 (fun k => ?_)) (by simp [hsum])
    simp only [rickyardref26_held.l0]
    rw [if_neg (pend_nlt pre)]
  | cons x suf ih =>
    intro pre s hs hb h3
    have hl : pre.length < 9223372036854775807 := by simp at h3; omega
    have hx := hw1_bd x
    simp only [List.length_cons] at hb
    have := ih (pre ++ [x]) (s + hw1 x) (by omega) (by omega) (by simpa using h3)
    rw [← psnoc] at this
    refine Ev.eq (Ev.step (fun k => ?_) this) (by simp only [hsum]; omega)
    simp only [rickyardref26_held.l0]
    rw [if_pos (pmid_lt pre x suf), if_pos (pnn _), prd_mid, pnxt pre x hl]
    unfold hw1 at *
    by_cases c1 : x.f1 ≥ 1
    · by_cases c2 : x.f1 ≤ 2147483648
      · rw [if_pos c1, if_pos c2, if_pos ⟨c1, c2⟩, w64 (by omega) (by omega)]
      · rw [if_pos c1, if_neg c2, if_neg (fun h => c2 h.2), Int.add_zero]
    · rw [if_neg c1, if_neg (fun h => c1 h.1), Int.add_zero]
theorem held_ev (l : List Pc) (h : l.length ≤ 10000) : Ev (fun k => rickyardref26_held.f k l) (hsum l) := by
  have := held_l0 l [] 0 (by omega) (by omega) (by simp only [List.nil_append]; omega)
  exact Ev.eq (Ev.congr (fun k => by rfl) this) (by omega)
end Pure
open Go.Proofs.Ytojijdfgflcnjaa.Pure

theorem blk_newN (w : World) (t : TypeId) (cs : Array Value) {n : Nat} (h : n = w.heap.size) : (w.alloc (.cells cs t)).heap[n]? = some (.cells cs t (0, 0)) := Blk.new_ w t cs h
/-- A block of slice values: a row of slices. -/
theorem C_rows {W : World} {g : Nat} {t : TypeId} (R : List (Option Addr × Nat × List Pc)) (hb : W.heap[g]? = some (.cells (R.map fun r => Value.slice r.1 r.2.2.length r.2.1).toArray t (0, 0))) (hR : ∀ r ∈ R, Kd.C k78 W r.1 r.2.2.length r.2.2 ∧ r.2.2.length ≤ r.2.1) (hl : R.length ≤ 1000) :
    Kd.C (Kd.slice 78 k78) W (some ⟨g, 0, none⟩) (R.map (·.2.2)).length (R.map (·.2.2)) := by
  refine ⟨rfl, by simp; omega, fun _ => ⟨_, rfl, fun j p hj => ?_⟩⟩
  rw [List.getElem?_map] at hj
  obtain ⟨r, hr, rfl⟩ := Option.map_eq_some_iff.1 hj
  have hm : r ∈ R := List.mem_of_getElem? hr
  refine ⟨[.slice r.1 r.2.2.length r.2.1], rfl, ⟨r.1, r.2.1, rfl, (hR r hm).2, (hR r hm).1⟩, fun i u hu => ?_⟩
  have hi : i = 0 := by have := (List.getElem?_eq_some_iff.1 hu).1; simp at this; exact this
  subst hi
  simp at hu
  subst hu
  have e : (Kd.slice 78 k78).sz = 1 := rfl
  rw [add_plain, e, Nat.mul_one, Nat.add_zero, (show Blk W g t _ from hb).cell, List.getElem?_toArray, List.getElem?_map, hr]
  rfl

/-- The seven lists, where they lie. -/
structure Seven (w : World) (A0 A1 A2 A3 A4 A5 A6 : Option Addr) (c0 c1 c2 c3 c4 c5 c6 : Nat) (l0 l1 l2 l3 l4 l5 l6 : List Pc) : Prop where
  h0 : Kd.C k78 w A0 l0.length l0 ∧ l0.length ≤ c0
  h1 : Kd.C k78 w A1 l1.length l1 ∧ l1.length ≤ c1
  h2 : Kd.C k78 w A2 l2.length l2 ∧ l2.length ≤ c2
  h3 : Kd.C k78 w A3 l3.length l3 ∧ l3.length ≤ c3
  h4 : Kd.C k78 w A4 l4.length l4 ∧ l4.length ≤ c4
  h5 : Kd.C k78 w A5 l5.length l5 ∧ l5.length ≤ c5
  h6 : Kd.C k78 w A6 l6.length l6 ∧ l6.length ≤ c6
theorem Seven.below {w w' : World} {A0 A1 A2 A3 A4 A5 A6 : Option Addr} {c0 c1 c2 c3 c4 c5 c6 : Nat} {l0 l1 l2 l3 l4 l5 l6 : List Pc} (h : Seven w A0 A1 A2 A3 A4 A5 A6 c0 c1 c2 c3 c4 c5 c6 l0 l1 l2 l3 l4 l5 l6) (hb : Below w.heap.size w w') :
    Seven w' A0 A1 A2 A3 A4 A5 A6 c0 c1 c2 c3 c4 c5 c6 l0 l1 l2 l3 l4 l5 l6 :=
  ⟨⟨Kd.C_below h.h0.1 hb, h.h0.2⟩, ⟨Kd.C_below h.h1.1 hb, h.h1.2⟩, ⟨Kd.C_below h.h2.1 hb, h.h2.2⟩, ⟨Kd.C_below h.h3.1 hb, h.h3.2⟩, ⟨Kd.C_below h.h4.1 hb, h.h4.2⟩, ⟨Kd.C_below h.h5.1 hb, h.h5.2⟩, ⟨Kd.C_below h.h6.1 hb, h.h6.2⟩⟩

set_option maxRecDepth 100000 in
set_option maxHeartbeats 8000000 in
theorem use_any (A0 A1 A2 A3 A4 A5 A6 : Option Addr) (c0 c1 c2 c3 c4 c5 c6 : Nat) (l0 l1 l2 l3 l4 l5 l6 : List Pc) (w : World) (h : Seven w A0 A1 A2 A3 A4 A5 A6 c0 c1 c2 c3 c4 c5 c6 l0 l1 l2 l3 l4 l5 l6) (hl : l1.length + l2.length + l3.length + l4.length + l5.length + l6.length ≤ 10000) :
    Calls Try.prog 30 #[.agg #[.slice A0 l0.length c0, .slice A1 l1.length c1, .slice A2 l2.length c2, .slice A3 l3.length c3, .slice A4 l4.length c4, .slice A5 l5.length c5, .slice A6 l6.length c6]] w (IsF (shN (hsum l5) (hsum [l1, l2, l3, l4, l5, l6].flatten)) w) := by
  obtain ⟨kA, eA⟩ := (words_ev [l5] (by simp) (by simp; omega)).rounds
  obtain ⟨kB, eB⟩ := (words_ev [l1, l2, l3, l4, l5, l6] (by simp) (by simp; omega)).rounds
  rw [show [l5].flatten = l5 by simp] at eA
  obtain ⟨a, ha⟩ : ∃ a, a = hsum l5 := ⟨_, rfl⟩
  obtain ⟨b, hb⟩ : ∃ b, b = hsum [l1, l2, l3, l4, l5, l6].flatten := ⟨_, rfl⟩
  rw [← ha] at eA ⊢
  rw [← hb] at eB ⊢
  clear ha hb hl
  have HA : ∀ W : World, Below w.heap.size w W → ∀ g, W.heap[g]? = some (.cells #[.slice A5 l5.length c5] 51 (0, 0)) → Sh (Calls Try.prog 47 #[.slice (some ⟨g, 0, none⟩) 1 1] W fun e w' => e = .returned (.int .i64 a) ∧ Below W.heap.size W w') := fun W hW g hg => ⟨by
    have h' := h.below hW
    exact tally_words.calls kA (some ⟨g, 0, none⟩) 1 [l5] a W (C_rows [(A5, c5, l5)] hg (by intro r hr; simp at hr; subst hr; exact h'.h5) (by simp)) (Nat.le_refl _) eA⟩
  have HB : ∀ W : World, Below w.heap.size w W → ∀ g, W.heap[g]? = some (.cells #[.slice A1 l1.length c1, .slice A2 l2.length c2, .slice A3 l3.length c3, .slice A4 l4.length c4, .slice A5 l5.length c5, .slice A6 l6.length c6] 51 (0, 0)) → Sh (Calls Try.prog 47 #[.slice (some ⟨g, 0, none⟩) 6 6] W fun e w' => e = .returned (.int .i64 b) ∧ Below W.heap.size W w') := fun W hW g hg => ⟨by
    have h' := h.below hW
    exact tally_words.calls kB (some ⟨g, 0, none⟩) 6 [l1, l2, l3, l4, l5, l6] b W (C_rows [(A1, c1, l1), (A2, c2, l2), (A3, c3, l3), (A4, c4, l4), (A5, c5, l5), (A6, c6, l6)] hg (by intro r hr; simp at hr; rcases hr with rfl | rfl | rfl | rfl | rfl | rfl <;> first | exact h'.h1 | exact h'.h2 | exact h'.h3 | exact h'.h4 | exact h'.h5 | exact h'.h6) (by simp)) (Nat.le_refl _) eB⟩
  obtain ⟨n1, e1⟩ : ∃ n, n = l1.length := ⟨_, rfl⟩
  obtain ⟨n2, e2⟩ : ∃ n, n = l2.length := ⟨_, rfl⟩
  obtain ⟨n3, e3⟩ : ∃ n, n = l3.length := ⟨_, rfl⟩
  obtain ⟨n4, e4⟩ : ∃ n, n = l4.length := ⟨_, rfl⟩
  obtain ⟨n5, e5⟩ : ∃ n, n = l5.length := ⟨_, rfl⟩
  obtain ⟨n6, e6⟩ : ∃ n, n = l6.length := ⟨_, rfl⟩
  rw [← e5] at HA
  rw [← e1, ← e2, ← e3, ← e4, ← e5, ← e6] at HB
  rw [← e1, ← e2, ← e3, ← e4, ← e5, ← e6]
  clear e1 e2 e3 e4 e5 e6 eA eB h
  have HX : Sh ((w.alloc (.cells #[.slice A0 l0.length c0, .slice A1 n1 c1, .slice A2 n2 c2, .slice A3 n3 c3, .slice A4 n4 c4, .slice A5 n5 c5, .slice A6 n6 c6] 53)).heap[w.heap.size]? = some (.cells #[.slice A0 l0.length c0, .slice A1 n1 c1, .slice A2 n2 c2, .slice A3 n3 c3, .slice A4 n4 c4, .slice A5 n5 c5, .slice A6 n6 c6] 53 (0, 0))) := ⟨blk_new w _⟩
  have HK : ∀ W : World, W.heap[w.heap.size]? = some (.cells #[.slice A0 l0.length c0, .slice A1 n1 c1, .slice A2 n2 c2, .slice A3 n3 c3, .slice A4 n4 c4, .slice A5 n5 c5, .slice A6 n6 c6] 53 (0, 0)) → W.cell? ⟨w.heap.size, 1, none⟩ = some (.slice A1 n1 c1) ∧ W.cell? ⟨w.heap.size, 2, none⟩ = some (.slice A2 n2 c2) ∧ W.cell? ⟨w.heap.size, 3, none⟩ = some (.slice A3 n3 c3) ∧ W.cell? ⟨w.heap.size, 4, none⟩ = some (.slice A4 n4 c4) ∧ W.cell? ⟨w.heap.size, 5, none⟩ = some (.slice A5 n5 c5) ∧ W.cell? ⟨w.heap.size, 6, none⟩ = some (.slice A6 n6 c6) := fun W hW =>
    ⟨(blk_cell hW 1).trans rfl, (blk_cell hW 2).trans rfl, (blk_cell hW 3).trans rfl, (blk_cell hW 4).trans rfl, (blk_cell hW 5).trans rfl, (blk_cell hW 6).trans rfl⟩
  have HKS := Sh.mk HK
  clear HK
  have HAS := Sh.mk HA
  have HBS := Sh.mk HB
  have HB0 : Sh (Below w.heap.size w (w.alloc (.cells #[.slice A0 l0.length c0, .slice A1 n1 c1, .slice A2 n2 c2, .slice A3 n3 c3, .slice A4 n4 c4, .slice A5 n5 c5, .slice A6 n6 c6] 53))) := ⟨below_alloc (Below.refl _ _) _⟩
  clear HA HB
  go_enter Try.func30, Try.ntmps30
  go_upto_region 1 with fail
  go_region_held3 (fun W => W.cell? ⟨w.heap.size, 1, none⟩ = some (.slice A1 n1 c1) ∧ W.cell? ⟨w.heap.size, 2, none⟩ = some (.slice A2 n2 c2) ∧ W.cell? ⟨w.heap.size, 3, none⟩ = some (.slice A3 n3 c3) ∧ W.cell? ⟨w.heap.size, 4, none⟩ = some (.slice A4 n4 c4) ∧ W.cell? ⟨w.heap.size, 5, none⟩ = some (.slice A5 n5 c5) ∧ W.cell? ⟨w.heap.size, 6, none⟩ = some (.slice A6 n6 c6)) (exact HKS.out _ (by repeat (first | exact HX.out | with_reducible refine blk_drew ?_ | with_reducible refine blk_alloc ?_ _ | with_reducible refine blk_below ?_ (by assumption)))) (first | (go_at_call 47; (with_reducible refine (HAS.out _ (by repeat (first | exact HB0.out | with_reducible refine below_alloc ?_ _ | with_reducible apply below_drew1 | with_reducible refine below_step ?_ (by assumption))) _ (by repeat (first | exact blk_newN _ _ _ (by simp) | with_reducible refine blk_drew ?_ | with_reducible refine blk_alloc ?_ _ | with_reducible refine blk_below ?_ (by assumption)))).out.mono ?_); rintro e wa ⟨rfl, ha⟩) | (go_at_call 47; (with_reducible refine (HBS.out _ (by repeat (first | exact HB0.out | with_reducible refine below_alloc ?_ _ | with_reducible apply below_drew1 | with_reducible refine below_step ?_ (by assumption))) _ (by repeat (first | exact blk_newN _ _ _ (by simp) | with_reducible refine blk_drew ?_ | with_reducible refine blk_alloc ?_ _ | with_reducible refine blk_below ?_ (by assumption)))).out.mono ?_); rintro e wb ⟨rfl, hb⟩) | (go_at_call 22; (with_reducible refine (share_any a b _).mono ?_); rintro e wz ⟨r, rfl, hz1, hz2, hz3⟩; have HZ := Sh.mk hz1; clear hz1))
  all_goals
    go_wp2
    go_ret
    exact ⟨_, rfl, HZ.out, hz2, by repeat (first | exact HB0.out | with_reducible refine below_alloc ?_ _ | with_reducible apply below_drew1 | with_reducible refine below_step ?_ (by assumption))⟩
theorem heapPc : Kd.Heap k78 := Kd.heap_iso _ (Kd.heap_pair (Kd.heap_int _) (Kd.heap_int _))
theorem V_of_C {W : World} {A : Option Addr} {c : Nat} {l : List Pc} (h : Kd.C k78 W A l.length l ∧ l.length ≤ c) (b : Nat) : Kd.V k78 78 W b (fun k_ => True) (.slice A l.length c) l :=
  Kd.V_mk h.2 (Kd.F_mono (Kd.C_F heapPc h.1) (fun _ _ => trivial))
set_option maxRecDepth 100000 in
set_option maxHeartbeats 8000000 in
theorem ruse_any (A0 A1 A2 A3 A4 A5 A6 : Option Addr) (c0 c1 c2 c3 c4 c5 c6 : Nat) (l0 l1 l2 l3 l4 l5 l6 : List Pc) (w : World) (h : Seven w A0 A1 A2 A3 A4 A5 A6 c0 c1 c2 c3 c4 c5 c6 l0 l1 l2 l3 l4 l5 l6) (hl : l0.length + l1.length + l2.length + l3.length + l4.length + l5.length + l6.length ≤ 10000) :
    Calls Try.prog 31 #[.agg #[.slice A0 l0.length c0, .slice A1 l1.length c1, .slice A2 l2.length c2, .slice A3 l3.length c3, .slice A4 l4.length c4, .slice A5 l5.length c5, .slice A6 l6.length c6]] w (IsF (shN (hsum l5) (hsum [l1, l2, l3, l4, l5, l6].flatten)) w) := by
  obtain ⟨R, hR⟩ : ∃ R, R = [l0, l1, l2, l3, l4, l5, l6] := ⟨_, rfl⟩
  have hfl : R.flatten.length ≤ 10000 := by rw [hR]; simp; omega
  have hone : ∀ l ∈ R, l.length ≤ 10000 := by
    intro l hl'
    rw [hR] at hl'
    simp at hl'
    rcases hl' with rfl | rfl | rfl | rfl | rfl | rfl | rfl <;> omega
  have HL : ∀ W : World, Below w.heap.size w W → Sh (Calls Try.prog 48 #[.agg #[.slice A0 l0.length c0, .slice A1 l1.length c1, .slice A2 l2.length c2, .slice A3 l3.length c3, .slice A4 l4.length c4, .slice A5 l5.length c5, .slice A6 l6.length c6]] W fun e w' => ∃ A c, e = .returned (.slice A 7 c) ∧ 7 ≤ c ∧ Kd.C (Kd.slice 78 k78) w' A 7 R ∧ Below W.heap.size W w') := fun W hW => ⟨by
    have h' := h.below hW
    refine (rickyardref26_lists.calls _ A0 c0 l0 _ A1 c1 l1 _ A2 c2 l2 _ A3 c3 l3 _ A4 c4 l4 _ A5 c5 l5 _ A6 c6 l6 R W (V_of_C h'.h0 _) (V_of_C h'.h1 _) (V_of_C h'.h2 _) (V_of_C h'.h3 _) (V_of_C h'.h4 _) (V_of_C h'.h5 _) (V_of_C h'.h6 _) (by rw [hR]; rfl)).mono ?_
    rintro e w' ⟨v, rfl, hN, hB⟩
    obtain ⟨A, c, rfl, hc, hC⟩ := Kd.N_reads hN
    have h7 : R.length = 7 := by rw [hR]; rfl
    rw [h7] at hc hC
    exact ⟨A, c, by rw [h7], hc, hC, hB⟩⟩
  have HH : ∀ l ∈ R, ∀ (W : World) (A : Option Addr) (c : Nat), Kd.C k78 W A l.length l → l.length ≤ c → Sh (Calls Try.prog 49 #[.slice A l.length c] W fun e w' => e = .returned (.int .i64 (hsum l)) ∧ Below W.heap.size W w') := fun l hl' W A c hC hc => ⟨by
    obtain ⟨k, hk⟩ := (held_ev l (hone l hl')).rounds
    refine (rickyardref26_held.calls k A c l (hsum l) W hC hc hk).mono ?_
    rintro e w' ⟨rfl, n, rfl⟩
    exact ⟨rfl, pw_below_drewN (Below.refl _ _) n⟩⟩
  have H5 : ∀ W : World, Below w.heap.size w W → Sh (Calls Try.prog 49 #[.slice A5 l5.length c5] W fun e w' => e = .returned (.int .i64 (hsum l5)) ∧ Below W.heap.size W w') := fun W hW =>
    HH l5 (by rw [hR]; simp) W A5 c5 (h.below hW).h5.1 h.h5.2
  have HLS := Sh.mk HL
  have HHS := Sh.mk HH
  have H5S := Sh.mk H5
  have HFL : Sh (∀ n, hsum ((R.take n).flatten) ≤ 21474836480000 ∧ 0 ≤ hsum ((R.take n).flatten)) := ⟨fun n => by have h1 := hsum_bd ((R.take n).flatten); have h2 := flat_le R n; omega⟩
  have HSUM : Sh (hsum ((R.take 7).flatten) - hsum l0 = hsum [l1, l2, l3, l4, l5, l6].flatten) := ⟨by rw [hR]; show hsum ([l0, l1, l2, l3, l4, l5, l6].flatten) - hsum l0 = _; rw [List.flatten_cons, hsum_append]; omega⟩
  have H0 : Sh (hsum ((R.take 1).flatten) = hsum l0) := ⟨by rw [hR]; simp⟩
  have H0b : Sh (0 ≤ hsum l0 ∧ hsum l0 ≤ 21474836480000) := ⟨by have h1 := hsum_bd l0; omega⟩
  have H7 : Sh (R.length = 7) := ⟨by rw [hR]; rfl⟩
  have HMEM : Sh (∀ i l, R[i]? = some l → l ∈ R) := ⟨fun i l hi => List.mem_of_getElem? hi⟩
  obtain ⟨tot, ht⟩ : ∃ t, t = hsum [l1, l2, l3, l4, l5, l6].flatten := ⟨_, rfl⟩
  rw [← ht] at HSUM ⊢
  obtain ⟨a5, h5⟩ : ∃ t, t = hsum l5 := ⟨_, rfl⟩
  rw [← h5] at H5S ⊢
  obtain ⟨a0, h0⟩ : ∃ t, t = hsum l0 := ⟨_, rfl⟩
  rw [← h0] at HSUM H0 H0b
  clear ht h5 h0 HL HH H5 hR hfl hone hl h
  obtain ⟨m0, e0⟩ : ∃ n, n = l0.length := ⟨_, rfl⟩
  obtain ⟨m1, e1⟩ : ∃ n, n = l1.length := ⟨_, rfl⟩
  obtain ⟨m2, e2⟩ : ∃ n, n = l2.length := ⟨_, rfl⟩
  obtain ⟨m3, e3⟩ : ∃ n, n = l3.length := ⟨_, rfl⟩
  obtain ⟨m4, e4⟩ : ∃ n, n = l4.length := ⟨_, rfl⟩
  obtain ⟨m5, e5⟩ : ∃ n, n = l5.length := ⟨_, rfl⟩
  obtain ⟨m6, e6⟩ : ∃ n, n = l6.length := ⟨_, rfl⟩
  rw [← e5] at H5S
  rw [← e0, ← e1, ← e2, ← e3, ← e4, ← e5, ← e6] at HLS ⊢
  clear e0 e1 e2 e3 e4 e5 e6
  have HX : Sh (Blk (w.alloc (.cells #[.slice A0 m0 c0, .slice A1 m1 c1, .slice A2 m2 c2, .slice A3 m3 c3, .slice A4 m4 c4, .slice A5 m5 c5, .slice A6 m6 c6] 53)) w.heap.size 53 #[.slice A0 m0 c0, .slice A1 m1 c1, .slice A2 m2 c2, .slice A3 m3 c3, .slice A4 m4 c4, .slice A5 m5 c5, .slice A6 m6 c6]) := ⟨Blk.new w _ _⟩
  have HB0 : Sh (Below w.heap.size w (w.alloc (.cells #[.slice A0 m0 c0, .slice A1 m1 c1, .slice A2 m2 c2, .slice A3 m3 c3, .slice A4 m4 c4, .slice A5 m5 c5, .slice A6 m6 c6] 53))) := ⟨below_alloc (Below.refl _ _) _⟩
  go_enter Try.func31, Try.ntmps31
  go_wp2_with fail
  (with_reducible refine (HLS.out _ HB0.out).out.mono ?_); rintro e w1 ⟨A, c, rfl, hc7, hC, hB⟩
  have HC := Sh.mk hC
  have HX1 : Sh (Blk w1 w.heap.size 53 #[.slice A0 m0 c0, .slice A1 m1 c1, .slice A2 m2 c2, .slice A3 m3 c3, .slice A4 m4 c4, .slice A5 m5 c5, .slice A6 m6 c6]) := ⟨HX.out.kp (Kp.of_below hB []) (by simp)⟩
  have HB1 : Sh (Below w.heap.size w w1) := ⟨below_step HB0.out hB⟩
  clear hC hB HX HB0
  go_wp2
  go_loopw [3, 5] (fun sv iv wr => ∃ (n : Nat), 1 ≤ n ∧ n ≤ 7 ∧ sv = .int .i64 (hsum ((R.take n).flatten) - a0) ∧ iv = .int .i64 n ∧ Sh (Below w1.heap.size w1 wr)) (fun sv iv _ => 7 - (intOf iv).toNat)
  case atStart => exact ⟨1, by omega, by omega, by rw [H0.out]; simp, rfl, ⟨Below.refl _ _⟩⟩
  case round =>
    obtain ⟨n, hn1, hn, rfl, rfl, HB⟩ := hrel
    by_cases hlt : n < 7
    · obtain ⟨l, hr⟩ : ∃ r, R[n]? = some r := ⟨_, List.getElem?_eq_getElem (by rw [H7.out]; exact hlt)⟩
      obtain ⟨ad, A0', c0', rfl, hcell, hcc, hC⟩ := at_many (Kd.C_below HC.out HB.out) n hlt l hr
      have HE := flat_succ hr
      have hs1 := HFL.out n
      have hs2 := HFL.out (n + 1)
      have hsn : hsum ((R.take (n + 1)).flatten) = hsum ((R.take n).flatten) + hsum l := by rw [HE, hsum_append]
      have hld := hsum_bd l
      have hz0 := H0b.out
      have HHl := (HHS.out l (HMEM.out n l hr) wr A0' c0' hC hcc).out
      obtain ⟨q, hq⟩ : ∃ q, q = hsum l := ⟨_, rfl⟩
      obtain ⟨s, hs⟩ : ∃ s, s = hsum ((R.take n).flatten) := ⟨_, rfl⟩
      obtain ⟨m, hm⟩ : ∃ m, m = l.length := ⟨_, rfl⟩
      rw [← hq] at HHl hsn hld
      rw [← hs] at hs1 hsn ⊢
      rw [← hm] at hcell HHl
      have HSN := Sh.mk hsn
      have HHL := Sh.mk HHl
      have q1 : IntKind.i64.wrap (s - a0 + q) = s - a0 + q := by rw [IntKind.wrap_i64]; omega
      have q2 : (n : Int) < 7 := by omega
      clear HHl HE hC hs hq hm hsn hs1 hs2 hld hz0 hcc hr
      go_wp2_with fail
      (with_reducible refine (HHL.out).mono ?_); rintro e w2 ⟨rfl, hb⟩
      have HB2 : Sh (Below w1.heap.size w1 w2) := ⟨below_step HB.out hb⟩
      clear hb
      go_wp2
      go_roundw
      case measure => simp [intOf]; omega
      case rel => exact ⟨n + 1, by omega, by omega, by rw [HSN.out]; congr 1; omega, by go_num, HB2⟩
    · obtain rfl : n = 7 := by omega
      rw [HSUM.out]
      have HX2 : Sh (Blk wr w.heap.size 53 #[.slice A0 m0 c0, .slice A1 m1 c1, .slice A2 m2 c2, .slice A3 m3 c3, .slice A4 m4 c4, .slice A5 m5 c5, .slice A6 m6 c6]) := ⟨HX1.out.kp (Kp.of_below HB.out []) (by simp)⟩
      have HB2 : Sh (Below w.heap.size w wr) := ⟨below_step HB1.out HB.out⟩
      have hcell : wr.cell? ⟨w.heap.size, 5, none⟩ = some (.slice A5 m5 c5) := HX2.out.cell 5
      go_wp2_with fail
      (with_reducible refine ((H5S.out wr HB2.out).out).mono ?_); rintro e w2 ⟨rfl, hb⟩
      have HB3 : Sh (Below w.heap.size w w2) := ⟨below_step HB2.out hb⟩
      clear hb hcell
      go_wp2_with fail
      (with_reducible refine (rshare_any a5 tot _).mono ?_); rintro e wz ⟨r, rfl, hz1, hz2, hz3⟩
      have HZ := Sh.mk hz1
      have HZ3 := Sh.mk hz3
      clear hz1 hz3
      go_wp2
      go_ret
      exact ⟨_, rfl, HZ.out, hz2, below_step HB3.out HZ3.out⟩
end Go.Proofs.Ytojijdfgflcnjaa
