/- Seven lists of pieces, where they lie; a row of pieces of one's own, and its cells. No statement is proved here. -/
import Derived.Test.YthbknmblehecaaaConcat
import Derived.Test.YthbknmblehecaaaPcMem
import Derived.Test.YthbknmblehecaaaPrx25
namespace Go.Proofs.Ythbknmblehecaaa
set_option linter.unusedVariables false
set_option linter.unusedSimpArgs false
open Go.RowKit Go.Proofs.YthbknmblehecaaaW.PrintWords Go.Proofs.YthbknmblehecaaaW.PrintLast Go.Proofs.YthbknmblehecaaaW.PrintMore Pr Go.Proofs.Ythbknmblehecaaa.Pure

/-- The seven lists, where they lie. -/
structure Seven (w : World) (A0 A1 A2 A3 A4 A5 A6 : Option Addr) (c0 c1 c2 c3 c4 c5 c6 : Nat) (l0 l1 l2 l3 l4 l5 l6 : List Pc) : Prop where
  h0 : Kd.C k58 w A0 l0.length l0 ∧ l0.length ≤ c0
  h1 : Kd.C k58 w A1 l1.length l1 ∧ l1.length ≤ c1
  h2 : Kd.C k58 w A2 l2.length l2 ∧ l2.length ≤ c2
  h3 : Kd.C k58 w A3 l3.length l3 ∧ l3.length ≤ c3
  h4 : Kd.C k58 w A4 l4.length l4 ∧ l4.length ≤ c4
  h5 : Kd.C k58 w A5 l5.length l5 ∧ l5.length ≤ c5
  h6 : Kd.C k58 w A6 l6.length l6 ∧ l6.length ≤ c6
theorem Seven.below {w w' : World} {A0 A1 A2 A3 A4 A5 A6 : Option Addr} {c0 c1 c2 c3 c4 c5 c6 : Nat} {l0 l1 l2 l3 l4 l5 l6 : List Pc} (h : Seven w A0 A1 A2 A3 A4 A5 A6 c0 c1 c2 c3 c4 c5 c6 l0 l1 l2 l3 l4 l5 l6) (hb : Below w.heap.size w w') :
    Seven w' A0 A1 A2 A3 A4 A5 A6 c0 c1 c2 c3 c4 c5 c6 l0 l1 l2 l3 l4 l5 l6 :=
  ⟨⟨Kd.C_below h.h0.1 hb, h.h0.2⟩, ⟨Kd.C_below h.h1.1 hb, h.h1.2⟩, ⟨Kd.C_below h.h2.1 hb, h.h2.2⟩, ⟨Kd.C_below h.h3.1 hb, h.h3.2⟩, ⟨Kd.C_below h.h4.1 hb, h.h4.2⟩, ⟨Kd.C_below h.h5.1 hb, h.h5.2⟩, ⟨Kd.C_below h.h6.1 hb, h.h6.2⟩⟩
theorem heapPc : Kd.Heap k58 := Kd.heap_iso _ (Kd.heap_pair (Kd.heap_int _) (Kd.heap_int _))
theorem V_of_C {W : World} {A : Option Addr} {c : Nat} {l : List Pc} (h : Kd.C k58 W A l.length l ∧ l.length ≤ c) (b : Nat) : Kd.V k58 58 W b (fun k_ => True) (.slice A l.length c) l :=
  Kd.V_mk h.2 (Kd.F_mono (Kd.C_F heapPc h.1) (fun _ _ => trivial))
theorem lists_any (A0 A1 A2 A3 A4 A5 A6 : Option Addr) (c0 c1 c2 c3 c4 c5 c6 : Nat) (l0 l1 l2 l3 l4 l5 l6 : List Pc) (W : World) (h : Seven W A0 A1 A2 A3 A4 A5 A6 c0 c1 c2 c3 c4 c5 c6 l0 l1 l2 l3 l4 l5 l6) :
    Calls Try.prog 55 #[.agg #[.slice A0 l0.length c0, .slice A1 l1.length c1, .slice A2 l2.length c2, .slice A3 l3.length c3, .slice A4 l4.length c4, .slice A5 l5.length c5, .slice A6 l6.length c6]] W fun e w' => ∃ A c, e = .returned (.slice A 7 c) ∧ 7 ≤ c ∧ Kd.C (Kd.slice 58 k58) w' A 7 [l0, l1, l2, l3, l4, l5, l6] ∧ Below W.heap.size W w' := by
  refine (part_lists.calls _ A0 c0 l0 _ A1 c1 l1 _ A2 c2 l2 _ A3 c3 l3 _ A4 c4 l4 _ A5 c5 l5 _ A6 c6 l6 [l0, l1, l2, l3, l4, l5, l6] W (V_of_C h.h0 _) (V_of_C h.h1 _) (V_of_C h.h2 _) (V_of_C h.h3 _) (V_of_C h.h4 _) (V_of_C h.h5 _) (V_of_C h.h6 _) rfl).mono ?_
  rintro e w' ⟨v, rfl, hN, hB⟩
  obtain ⟨A, c, rfl, hc, hC⟩ := Kd.N_reads hN
  exact ⟨A, c, rfl, hc, hC, hB⟩

theorem reps_encp (R : Pc → List Value → Prop) (hR : ∀ x cs, R x cs → cs = [.int .i64 x.f0, .int .i64 x.f1]) : ∀ (l : List Pc) (cs : List Value), Reps R 2 l cs → cs = encp l
  | [], cs, h => by
    have := h.1
    exact List.eq_nil_of_length_eq_zero (by simpa using this)
  | x :: l, cs, h => by
    have hl := h.1
    have h0 := hR x _ (h.2 0 x rfl)
    simp only [Nat.zero_mul, List.drop_zero] at h0
    have hrest := reps_encp R hR l (cs.drop 2) ⟨by rw [List.length_drop, hl]; simp only [List.length_cons]; omega, fun j p hj => by
      have := h.2 (j + 1) p (by simpa using hj)
      rw [show (j + 1) * 2 = 2 + j * 2 by omega, ← List.drop_drop] at this
      exact this⟩
    rw [← List.take_append_drop 2 cs, h0, hrest]
    rfl
theorem encp_drop (l : List Pc) (i : Nat) : (encp l).drop (i * 2) = encp (l.drop i) := by
  induction l generalizing i with
  | nil => simp [encp]
  | cons x l ih =>
    cases i with
    | zero => simp [encp]
    | succ i =>
      rw [show (i + 1) * 2 = i * 2 + 1 + 1 by omega]
      simp [encp, ih]
theorem encp_reps (R : Pc → List Value → Prop) (hR : ∀ x, R x [.int .i64 x.f0, .int .i64 x.f1]) (l : List Pc) : Reps R 2 l (encp l) := by
  refine ⟨encp_len l, fun j p hj => ?_⟩
  have hj' := (List.getElem?_eq_some_iff.1 hj).1
  have e := (List.getElem?_eq_some_iff.1 hj).2
  rw [encp_drop, List.drop_eq_getElem_cons hj', e]
  exact hR p
/-- An own row that is not empty: its block; and with that block turned, the row. -/
theorem R_open {w : World} {base : Nat} {v : Value} {l : List Pc} (h : Kd.R k58 58 w base (fun _ => True) v l) (hl : 0 < l.length) :
    ∃ g c zs, v = .slice (some ⟨g, 0, none⟩) l.length c ∧ base ≤ g ∧ l.length ≤ c ∧ Row w w g l zs ∧
      ∀ (w' : World) (l' : List Pc), l'.length = l.length → Row w w' g l' zs → Kd.R k58 58 w' base (fun _ => True) v l' := by
  obtain ⟨_, inner, ho, hr⟩ := h
  have he := reps_encp _ (fun x cs h => k58_openM h) l inner hr
  subst he
  rcases ho.2 with ⟨_, h0⟩ | ⟨g, cap, cur, rfl, hbg, hg, hnc, hcm, hcs, htk⟩
  · omega
  · have hcs' : cur.size = cap * 2 := hcs
    have htk' : cur.toList.take (l.length * 2) = encp l := htk
    have hcur : cur = (encp l ++ cur.toList.drop (l.length * 2)).toArray := by rw [← htk', List.take_append_drop]
    refine ⟨g, cap, cur.toList.drop (l.length * 2), rfl, hbg, hnc, ⟨by rw [← hcur]; exact hg, Kp.refl _ _⟩, fun w' l' hl' hR => ?_⟩
    have hsz : (encp l' ++ cur.toList.drop (l.length * 2)).toArray.size = cap * 2 := by
      have hcl : cur.toList.length = cap * 2 := by rw [Array.length_toList]; exact hcs'
      rw [List.size_toArray, List.length_append, encp_len, List.length_drop, hcl]; omega
    refine ⟨fun _ _ => trivial, encp l', ⟨encp_len l', .inr ⟨g, cap, _, by rw [hl'], hbg, hR.blk, by omega, hcm, hsz, ?_⟩⟩, encp_reps _ (fun x => k58_mkM _ _ _ x) l'⟩
    show (encp l' ++ cur.toList.drop (l.length * 2)).take (l'.length * 2) = encp l'
    rw [List.take_append_of_le_length (by rw [encp_len]; omega), List.take_of_length_le (by rw [encp_len]; omega)]
end Go.Proofs.Ythbknmblehecaaa
