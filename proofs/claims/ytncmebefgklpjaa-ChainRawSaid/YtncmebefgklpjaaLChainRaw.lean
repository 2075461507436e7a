/- The walk of the statement ChainRaw: of any words, any head, any place a chain answers as the document does; and of a walk, as far as any number. -/
import Derived.Test.YtncmebefgklpjaaLaw9
namespace Go.Proofs.Ytncmebefgklpjaa
set_option linter.unusedVariables false
open Go.RowKit Go.Proofs.YtncmebefgklpjaaW.PrintWords Go.Proofs.YtncmebefgklpjaaW.PrintLast Go.Proofs.YtncmebefgklpjaaW.PrintMore

theorem laidM_nonneg (L : Nat) (ws : List Int) (h : ∀ x ∈ ws, 0 ≤ x) (k : Nat) (i : Nat) : 0 ≤ rd0 (laidM L ws k) i := by
  induction k with
  | zero =>
    unfold laidM rd0
    rw [List.getD_eq_getElem?_getD, List.getElem?_replicate]
    split <;> simp
  | succ k ih =>
    unfold laidM
    rw [rd0_set]
    split
    · unfold rd0
      rw [List.getD_eq_getElem?_getD]
      by_cases hk : k < ws.length
      · rw [List.getElem?_eq_getElem hk]
        exact h _ (List.getElem_mem hk)
      · rw [List.getElem?_eq_none (by omega)]
        simp
    · exact ih
theorem walkS_len (m : List Int) : ∀ (n : Nat) (h : Int) (out : List Int), (walkS m n h out).1.length ≤ out.length + n
  | 0, h, out => by unfold walkS; split <;> simp
  | n + 1, h, out => by
    unfold walkS
    split
    · simp
    · split
      · have := walkS_len m n (popS m h).2.1 (out ++ [(popS m h).1])
        simp at this ⊢; omega
      · simp
theorem walkT_len (m : List Int) (h most : Int) : (walkT m h most).1.length ≤ most.toNat := by
  unfold walkT
  split
  · simp
  · have := walkS_len m most.toNat h []
    simpa using this

set_option maxRecDepth 100000 in
set_option maxHeartbeats 4000000 in
theorem chainRaw_walk (A0 : Option Addr) (c0 : Nat) (l0 : List Int) (a1 a2 a3 : Int) (w : World) (hr0 : Kd.C (Kd.int .u64) w A0 l0.length l0) (hc0 : l0.length ≤ c0) (hw0 : ∀ x ∈ l0, (Lit.int .u64 x).wf = true) (y0 : l0.length * 8 ≤ 140737488351232)
    (w1 : (Lit.int .i64 a1).wf = true) (w2 : (Lit.int .i64 a2).wf = true) (w3 : (Lit.int .i64 a3).wf = true) :
    Calls Try.prog 12 #[.slice A0 l0.length c0, .int .i64 a1, .int .i64 a2, .int .i64 a3] w fun e w' => e = .returned (.bool true) ∧ Below w.heap.size w w' := by
  have ub : -9223372036854775808 ≤ a1 ∧ a1 ≤ 9223372036854775807 := by simpa [Lit.wf, IntKind.min, IntKind.max, IntKind.signed, IntKind.bits] using w1
  have un : ∀ x ∈ l0, 0 ≤ x := fun x hx => by
    have : 0 ≤ x ∧ x ≤ 18446744073709551615 := by simpa [Lit.wf, IntKind.min, IntKind.max, IntKind.signed, IntKind.bits] using hw0 x hx
    exact this.1
  obtain ⟨b1, b1'⟩ := ub
  have hl : l0.length ≤ 17592186044416 := by omega
  have HR := Sh.mk hr0
  clear hr0 hw0 y0 w1 w2 w3
  go_enter Try.func12, Try.ntmps12
  go_wp2_with fail
  (with_reducible refine (laid_any 1 A0 c0 l0 _ (by omega) (by omega) HR.out hl).mono ?_); rintro e w1 ⟨ga, gb, gm, rfl, h1, h2, h3, h4, h5, h6, h7⟩
  obtain ⟨m, hm⟩ : ∃ m, m = laidM ((1 : Int).toNat * 64) l0 (min l0.length ((1 : Int).toNat * 64)) := ⟨_, rfl⟩
  have hn : ∀ i, 0 ≤ rd0 m i := by rw [hm]; exact laidM_nonneg _ _ un _
  rw [← hm] at h1 h2
  have hml : m.length = 64 := by rw [hm, laidM_len]; rfl
  rw [← hm]
  have HA := Sh.mk h1
  have HM := Sh.mk h2
  have HB := Sh.mk h7
  have HN := Sh.mk hn
  have HML := Sh.mk hml
  clear h1 h2 h7 hm hml hn un
  by_cases cm : 2000 < a3
  · go_wp2_with fail
    (with_reducible refine (awake9 _).mono ?_); rintro e w6 ⟨rfl, g1⟩
    have K6 := Sh.mk g1
    clear g1
    go_wp2
    go_ret
    exact ⟨rfl, below_then HB.out HB.out.size K6.out⟩
  · have hmost : a3 ≤ 2000 := by omega
    obtain ⟨⟨p1, p2, p3⟩, hp⟩ : ∃ p, p = popS m a1 := ⟨_, rfl⟩
    have HP : Sh (Calls Try.prog 28 #[.pointer (some ⟨ga, 0, none⟩), .int .i64 a1] w1 fun e w' => e = .returned (.tuple #[.int .i64 p1, .int .i64 p2, .int .i64 p3]) ∧ w1 = w') := by
      have := pop_any ga gb m a1 w1 HA.out b1 b1'
      rw [← hp] at this
      exact ⟨this⟩
    have HP9 : Sh (Pr.rickyardref9_Pop.f 1 m a1 = some (p1, p2, p3)) := ⟨by rw [r9Pop_eq 0 m a1 (by have := HML.out; omega) b1 b1', hp]⟩
    obtain ⟨⟨r1, r2⟩, hq⟩ : ∃ q, q = walkT m a1 a3 := ⟨_, rfl⟩
    have HW9 : Sh (Pr.rickyardref9_Walk.f (a3.toNat + 3) m a1 a3 = some (r1, r2)) := ⟨by rw [r9Walk_eq m a1 a3 (by have := HML.out; omega) HN.out (by omega), hq]⟩
    have hrl : r1.length ≤ 2000 := by have := walkT_len m a1 a3; rw [← hq] at this; simp at this; omega
    have HW : Sh (∀ W, Ar W ga gb m → Calls Try.prog 35 #[.pointer (some ⟨ga, 0, none⟩), .int .i64 a1, .int .i64 a3] W (IsRowI r1 r2 W)) := ⟨fun W hW => by
      have := walk_any ga gb m a1 a3 W hW (by omega)
      rw [← hq] at this
      exact this⟩
    obtain ⟨⟨n1, n2, n3⟩, hz⟩ : ∃ q, q = pushS m a1 a2 := ⟨_, rfl⟩
    have HZ9 : Sh (Pr.rickyardref9_Push.f m a1 a2 = some (n1, n2, n3)) := ⟨by rw [r9Push_eq m a1 a2 (by have := HML.out; omega), hz]⟩
    have HZ : Sh (∀ W, Ar W ga gb m → Calls Try.prog 30 #[.pointer (some ⟨ga, 0, none⟩), .int .i64 a1, .int .i64 a2] W fun e w' => e = .returned (.tuple #[.int .i64 n2, .int .i64 n3]) ∧ Ar w' ga gb n1 ∧ Kp [gb] W w') := ⟨fun W hW => by
      have := push_any ga gb m a1 a2 W hW
      rw [← hz] at this
      exact this⟩
    have HNL : Sh (n1.length = 64) := ⟨by have := pushS_len m a1 a2; rw [← hz] at this; simp at this; rw [this]; exact HML.out⟩
    clear hp hq hz cm
    go_wp2_with fail
    (with_reducible refine HP.out.mono ?_); rintro e w' ⟨rfl, rfl⟩
    have HC : Sh (Kd.C (Kd.int .u64) w1 (some ⟨gm, 0, none⟩) m.length m) := ⟨C_whole HM.out (by have := HML.out; omega)⟩
    go_wp2_with fail
    (with_reducible refine (Pr.rickyardref9_Pop.calls 1 _ _ m a1 p1 p2 p3 _ HC.out (Nat.le_refl _) HP9.out).mono ?_); rintro e w2 ⟨rfl, ⟨nd, rfl⟩⟩
    have HA2 : Sh (Ar (w1.drewN nd) ga gb m) := ⟨HA.out.kp ((Kp.refl [] _).drewN _) (by simp) (by simp)⟩
    have HB2 : Sh (Below w1.heap.size w1 (w1.drewN nd)) := ⟨((Kp.refl [] w1).drewN _).below⟩
    generalize w1.drewN nd = w2 at *
    go_wp2_with fail
    (with_reducible refine (HW.out _ HA2.out).mono ?_); rintro e w3 ⟨v, rfl, g1, g2⟩
    obtain ⟨A1, c1, rfl, hc1, hC1⟩ := Kd.R_reads g1
    have HC1 := Sh.mk hC1
    have HB3 : Sh (Below w1.heap.size w1 w3) := ⟨below_then HB2.out HB2.out.size g2⟩
    have HC3 : Sh (Kd.C (Kd.int .u64) w3 (some ⟨gm, 0, none⟩) m.length m) := ⟨Kd.C_below HC.out HB3.out⟩
    clear g1 g2 hC1
    go_wp2_with fail
    (with_reducible refine (Pr.rickyardref9_Walk.calls (a3.toNat + 3) _ _ m a1 a3 r1 r2 _ HC3.out (Nat.le_refl _) HW9.out).mono ?_); rintro e w4 ⟨v2, rfl, g1, g2⟩
    obtain ⟨A2, c2, rfl, hc2, hC2⟩ := Kd.R_reads g1
    have HC2 := Sh.mk hC2
    have HB4 : Sh (Below w1.heap.size w1 w4) := ⟨below_then HB3.out HB3.out.size g2⟩
    have HC14 : Sh (Kd.C (Kd.int .i64) w4 A1 r1.length r1) := ⟨Kd.C_below HC1.out g2⟩
    clear g1 g2 hC2
    go_wp2_with fail
    (with_reducible refine (Pr.rickyardref1_SameInts.calls (r1.length + 1) A1 c1 r1 A2 c2 r1 true _ HC14.out hc1 HC2.out hc2 (sameInts_refl r1 (by omega))).mono ?_); rintro e w5 ⟨rfl, hd⟩
    have HB5 : Sh (Below w1.heap.size w1 w5) := ⟨below_then HB4.out HB4.out.size hd.below⟩
    have HA5 : Sh (Ar w5 ga gb m) := ⟨HA.out.kp (Kp.of_below HB5.out []) (by simp) (by simp)⟩
    have HM5 : Sh (Blk w5 gm 28 (U64s m)) := ⟨HM.out.kp (Kp.of_below HB5.out []) (by simp)⟩
    clear hd
    go_wp2_with fail
    (with_reducible refine (HZ.out _ HA5.out).mono ?_); rintro e w6 ⟨rfl, g1, g2⟩
    have HA6 := Sh.mk g1
    have HM6 : Sh (Blk w6 gm 28 (U64s m)) := ⟨HM5.out.kp g2 (by simp; exact h3)⟩
    have HB05 : Sh (Below w.heap.size w w5) := ⟨below_then HB.out HB.out.size HB5.out⟩
    have HB6 : Sh (Below w.heap.size w w6) := ⟨HB05.out.trans (g2.toBelow HB05.out.size (by simp; exact h5))⟩
    have HO6 : Sh (Kd.R (Kd.int .u64) 28 w6 w.heap.size (fun k => k = gm) (.slice (some ⟨gm, 0, none⟩) m.length m.length) m) := ⟨R_blk HM6.out h6 (by have := HML.out; omega) _ rfl⟩
    clear g1 g2
    go_wp2_with fail
    (with_reducible refine (Pr.rickyardref9_Push.calls (fun k => k = gm) _ m a1 a2 n1 n2 n3 w _ HB6.out HO6.out HZ9.out).mono ?_); rintro e w7 ⟨v3, rfl, g1, g2, g3⟩
    obtain ⟨A3, c3, rfl, hc3, hC3⟩ := Kd.R_reads g1
    have HC3' := Sh.mk hC3
    have HB7 := Sh.mk g2
    have HA7 : Sh (Ar w7 ga gb n1) := ⟨⟨blk_kept HA6.out.st g3 (by have := (HA6.out.st.ne_ HM6.out (by decide)); exact this), blk_kept HA6.out.ws g3 (fun e => h3 e.symm), HA6.out.small⟩⟩
    clear g1 g2 g3 hC3
    go_wp2_with fail
    (with_reducible refine (words_yes ga gb n1 _ _ _ HA7.out HC3'.out hc3).mono ?_); rintro e w8 ⟨rfl, g1⟩
    have K8 := Sh.mk g1
    clear g1
    go_wp2_with fail
    (with_reducible refine (awake9 _).mono ?_); rintro e w9 ⟨rfl, g1⟩
    have K9 := Sh.mk g1
    clear g1
    go_wp2
    go_ret
    exact ⟨rfl, below_then (below_then HB7.out HB7.out.size K8.out) (Nat.le_trans HB7.out.size K8.out.size) K9.out⟩
end Go.Proofs.Ytncmebefgklpjaa
