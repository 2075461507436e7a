/- part.All: its contract. No statement is proved here. -/
import Derived.Test.YthbknmblehecaaaPcSort4
import Derived.Test.YthbknmblehecaaaSeven
namespace Go.Proofs.Ythbknmblehecaaa
set_option linter.unusedVariables false
set_option linter.unusedSimpArgs false
open Go.RowKit Go.Proofs.YthbknmblehecaaaW.PrintWords Go.Proofs.YthbknmblehecaaaW.PrintLast Go.Proofs.YthbknmblehecaaaW.PrintMore Pr Go.Proofs.Ythbknmblehecaaa.Pure

theorem below_more {B : Nat} {a b c : World} (h1 : Below B a b) (h2 : Below B b c) : Below B a c := ⟨h2.os.trans h1.os, h2.tape.trans h1.tape, h2.output.trans h1.output, Nat.le_trans h1.size h2.size, fun k hk => (h2.block k hk).trans (h1.block k hk)⟩
set_option maxRecDepth 100000 in
set_option maxHeartbeats 4000000 in
theorem sortStable_none (A : Option Addr) (c : Nat) (w : World) :
    Calls Try.prog 56 #[.slice A 0 c, .func (.func 57) #[] #[]] w fun e w' => e = .returned (.tuple #[]) ∧ w = w' := by
  have HI : Sh (Calls Try.prog 72 #[.slice A 0 c, .int .i64 0, .int .i64 0, .func (.func 57) #[] #[]] w fun e w' => e = .returned (.tuple #[]) ∧ w = w') := ⟨by
    go_enter Try.func72, Try.ntmps72
    go_wp2
    refine wp_loop_rounds 1 ?_
    rw [rounds_succ]
    go_wp2
    go_end0
    exact ⟨rfl, rfl⟩⟩
  have HS : Sh (Calls Try.prog 68 #[.slice A 0 c, .int .i64 0, .func (.func 57) #[] #[]] w fun e w' => e = .returned (.tuple #[]) ∧ w = w') := ⟨by
    go_enter Try.func68, Try.ntmps68
    go_wp2
    refine wp_loop_rounds 1 ?_
    rw [rounds_succ]
    go_wp2_with fail
    (with_reducible refine HI.out.mono ?_); rintro e w1 ⟨rfl, rfl⟩
    go_wp2
    refine wp_loop_rounds 1 ?_
    rw [rounds_succ]
    go_wp2
    go_end0
    exact ⟨rfl, rfl⟩⟩
  clear HI
  go_enter Try.func56, Try.ntmps56
  go_wp2_with fail
  (with_reducible refine HS.out.mono ?_); rintro e w1 ⟨rfl, rfl⟩
  go_wp2
  go_end0
  exact ⟨rfl, rfl⟩

set_option maxRecDepth 100000 in
set_option maxHeartbeats 4000000 in
theorem all_any (A0 A1 A2 A3 A4 A5 A6 : Option Addr) (c0 c1 c2 c3 c4 c5 c6 : Nat) (l0 l1 l2 l3 l4 l5 l6 : List Pc) (w : World) (h : Seven w A0 A1 A2 A3 A4 A5 A6 c0 c1 c2 c3 c4 c5 c6 l0 l1 l2 l3 l4 l5 l6) (hl : [l0, l1, l2, l3, l4, l5, l6].flatten.length ≤ 100000) :
    Calls Try.prog 30 #[.agg #[.slice A0 l0.length c0, .slice A1 l1.length c1, .slice A2 l2.length c2, .slice A3 l3.length c3, .slice A4 l4.length c4, .slice A5 l5.length c5, .slice A6 l6.length c6]] w fun e w' => ∃ v, e = .returned v ∧ Kd.R k58 58 w' w.heap.size (fun _ => True) v (sortP [l0, l1, l2, l3, l4, l5, l6].flatten) ∧ Below w.heap.size w w' := by
  obtain ⟨R, hR⟩ : ∃ R, R = [l0, l1, l2, l3, l4, l5, l6] := ⟨_, rfl⟩
  have h7 : R.length = 7 := by rw [hR]; rfl
  have HLS : Sh (∀ W : World, Below w.heap.size w W → Calls Try.prog 55 #[.agg #[.slice A0 l0.length c0, .slice A1 l1.length c1, .slice A2 l2.length c2, .slice A3 l3.length c3, .slice A4 l4.length c4, .slice A5 l5.length c5, .slice A6 l6.length c6]] W fun e w' => ∃ A c, e = .returned (.slice A 7 c) ∧ 7 ≤ c ∧ Kd.C (Kd.slice 58 k58) w' A 7 R ∧ Below W.heap.size W w') := ⟨fun W hW => by
    rw [hR]; exact lists_any A0 A1 A2 A3 A4 A5 A6 c0 c1 c2 c3 c4 c5 c6 l0 l1 l2 l3 l4 l5 l6 W (h.below hW)⟩
  rw [← hR] at hl ⊢
  have HL := Sh.mk hl
  have H7 := Sh.mk h7
  clear hR hl h7 h
  obtain ⟨m0, e0⟩ : ∃ n, n = l0.length := ⟨_, rfl⟩
  obtain ⟨m1, e1⟩ : ∃ n, n = l1.length := ⟨_, rfl⟩
  obtain ⟨m2, e2⟩ : ∃ n, n = l2.length := ⟨_, rfl⟩
  obtain ⟨m3, e3⟩ : ∃ n, n = l3.length := ⟨_, rfl⟩
  obtain ⟨m4, e4⟩ : ∃ n, n = l4.length := ⟨_, rfl⟩
  obtain ⟨m5, e5⟩ : ∃ n, n = l5.length := ⟨_, rfl⟩
  obtain ⟨m6, e6⟩ : ∃ n, n = l6.length := ⟨_, rfl⟩
  rw [← e0, ← e1, ← e2, ← e3, ← e4, ← e5, ← e6] at HLS ⊢
  clear e0 e1 e2 e3 e4 e5 e6
  go_enter Try.func30, Try.ntmps30
  go_wp2_with fail
  (with_reducible refine (HLS.out _ (below_alloc (Below.refl _ _) _)).mono ?_); rintro e w1 ⟨A, c, rfl, hc, hC, hB⟩
  have HB1 : Sh (Below w.heap.size w w1) := ⟨below_step (below_alloc (Below.refl _ _) _) hB⟩
  have HCC : Sh (Calls Try.prog 54 #[.slice A 7 c] w1 fun e w' => ∃ v, e = .returned v ∧ Kd.R k58 58 w' w1.heap.size (fun _ => True) v R.flatten ∧ Below w1.heap.size w1 w') := ⟨by
    have h7 := H7.out
    have := concat_any A c R w1 (by rw [h7]; exact hC) (by omega) (by omega) (by have := HL.out; omega)
    rwa [h7] at this⟩
  clear hC hB hc HLS
  go_wp2_with fail
  (with_reducible refine HCC.out.mono ?_); rintro e w2 ⟨v, rfl, hO, hB⟩
  have HB2 : Sh (Below w.heap.size w w2) := ⟨below_step HB1.out hB⟩
  have hO1 : Kd.R k58 58 w2 w.heap.size (fun _ => True) v R.flatten := Kd.R_lower hO HB1.out.size
  clear hB hO HCC HB1
  rcases Nat.eq_zero_or_pos R.flatten.length with h0 | h0
  · have hnil : R.flatten = [] := List.eq_nil_of_length_eq_zero h0
    obtain ⟨A', c', rfl⟩ := Kd.R_slice hO1
    have HO : Sh (Kd.R k58 58 w2 w.heap.size (fun _ => True) (.slice A' 0 c') (sortP R.flatten)) := ⟨by rw [hnil] at hO1 ⊢; exact hO1⟩
    have hz : R.flatten.length = 0 := h0
    rw [hz]
    clear hO1 h0 hnil hz
    go_wp2_with fail
    (with_reducible refine (sortStable_none A' c' w2).mono ?_); rintro e w' ⟨rfl, rfl⟩
    go_wp2
    go_ret
    exact ⟨_, rfl, HO.out, HB2.out⟩
  · obtain ⟨g, c', zs, rfl, hbg, hcc, hrow, hback⟩ := R_open hO1 h0
    obtain ⟨n, hn⟩ : ∃ n, n = R.flatten.length := ⟨_, rfl⟩
    have HS := Sh.mk (sortStable_any (w0 := w2) (g := g) (zs := zs) c' R.flatten n w2 hrow hn (by have := HL.out; omega))
    have HBK : Sh (∀ w', Row w2 w' g (sortP R.flatten) zs → Kd.R k58 58 w' w.heap.size (fun _ => True) (.slice (some ⟨g, 0, none⟩) n c') (sortP R.flatten) ∧ Below w.heap.size w w') := ⟨fun w' hR => by
      refine ⟨by rw [hn]; exact hback w' _ (sortP_length _) hR, below_more HB2.out (hR.kp.toBelow ?_ ?_)⟩
      · exact HB2.out.size
      · intro k hk; simp at hk; subst hk; exact hbg⟩
    rw [← hn]
    clear hrow hback hO1 h0 hn hcc hbg
    go_wp2_with fail
    (with_reducible refine HS.out.mono ?_); rintro e w' ⟨rfl, hR⟩
    have HF := Sh.mk (HBK.out w' hR)
    clear hR HBK HS
    go_wp2
    go_ret
    exact ⟨_, rfl, HF.out.1, HF.out.2⟩
end Go.Proofs.Ythbknmblehecaaa
