/- part.Kind: its contract. No statement is proved here. -/
import Derived.Test.YthbknmblehecaaaSeven
import Derived.Test.YthbknmblehecaaaPcFunc
import Derived.Test.YthbknmblehecaaaPrx27
namespace Go.Proofs.Ythbknmblehecaaa
set_option linter.unusedVariables false
set_option linter.unusedSimpArgs false
open Go.RowKit Go.Proofs.YthbknmblehecaaaW.PrintWords Go.Proofs.YthbknmblehecaaaW.PrintLast Go.Proofs.YthbknmblehecaaaW.PrintMore Pr Go.Proofs.Ythbknmblehecaaa.Pure

theorem may_any (x0 x1 : Int) (w : World) : Calls Try.prog 62 #[.agg #[.int .i64 x0, .int .i64 x1]] w fun e w' => e = .returned (.bool (mayB ⟨x0, x1⟩)) ∧ Below w.heap.size w w' := by
  refine part_may.calls x0 x1 _ w ?_
  unfold part_may.f mayB
  dsimp only
  split
  next h1 =>
    split
    next h2 =>
      split
      next h3 => simp [h1, h2, h3]
      next h3 => simp [h1, h2, h3]
    next h2 => simp [h1, h2]
  next h1 => simp [h1]
set_option maxRecDepth 100000 in
set_option maxHeartbeats 2000000 in
theorem kind_closure (x0 x1 : Int) (bn : Nat) (at_ : Int) (w : World) (hb : w.cell? ⟨bn, 0, none⟩ = some (.int .i64 at_)) :
    Calls Try.prog 61 #[.agg #[.int .i64 x0, .int .i64 x1], .pointer (some ⟨bn, 0, none⟩)] w fun e w' => e = .returned (.bool (hasP at_ ⟨x0, x1⟩)) ∧ Below w.heap.size w w' := by
  have hu := Try.underlying58
  have HB0 : Sh (Below w.heap.size w (w.alloc (.cells #[.int .i64 x0, .int .i64 x1] 58))) := ⟨below_alloc (Below.refl _ _) _⟩
  have HX : Sh (Blk (w.alloc (.cells #[.int .i64 x0, .int .i64 x1] 58)) w.heap.size 58 #[.int .i64 x0, .int .i64 x1]) := ⟨Blk.new w _ _⟩
  have HBN : Sh (bn < w.heap.size ∧ w.cell? ⟨bn, 0, none⟩ = some (.int .i64 at_)) := ⟨⟨World.block_lt_of_cell? _ _ hb, hb⟩⟩
  clear hb
  unfold hasP
  cases hm : mayB ⟨x0, x1⟩ with
  | false =>
    have HM : Sh (∀ W, Calls Try.prog 62 #[.agg #[.int .i64 x0, .int .i64 x1]] W fun e w' => e = .returned (.bool false) ∧ Below W.heap.size W w') := ⟨fun W => by rw [← hm]; exact may_any x0 x1 W⟩
    clear hm
    go_enter Try.func61, Try.ntmps61
    go_wp2_with fail
    (with_reducible refine (HM.out _).mono ?_); rintro e w1 ⟨rfl, h1⟩
    have HB1 : Sh (Below w.heap.size w w1) := ⟨below_step HB0.out h1⟩
    clear h1
    go_wp2
    go_ret
    exact ⟨rfl, HB1.out⟩
  | true =>
    have HM : Sh (∀ W, Calls Try.prog 62 #[.agg #[.int .i64 x0, .int .i64 x1]] W fun e w' => e = .returned (.bool true) ∧ Below W.heap.size W w') := ⟨fun W => by rw [← hm]; exact may_any x0 x1 W⟩
    have hbd : 0 ≤ x0 ∧ x0 ≤ 2147483648 ∧ 1 ≤ x1 ∧ x1 ≤ 2147483648 := by
      simp [mayB] at hm; omega
    have v1 : IntKind.i64.wrap (x0 + x1) = x0 + x1 := by rw [IntKind.wrap_i64]; omega
    clear hm hbd
    by_cases c1 : x0 ≤ at_
    · have b1 : decide (x0 ≤ at_) = true := decide_eq_true c1
      have b1' : decide (at_ ≥ x0) = true := decide_eq_true c1
      by_cases c2 : at_ < x0 + x1
      · have b2 : decide (at_ < x0 + x1) = true := decide_eq_true c2
        rw [b1, b2]
        go_enter Try.func61, Try.ntmps61
        go_wp2_with fail
        (with_reducible refine (HM.out _).mono ?_); rintro e w1 ⟨rfl, h1⟩
        have HB1 : Sh (Below w.heap.size w w1) := ⟨below_step HB0.out h1⟩
        have k0 : w1.cell? ⟨w.heap.size, 0, none⟩ = some (.int .i64 x0) := ((HX.out.kp (Kp.of_below h1 []) (by simp)).cell 0).trans rfl
        have k1 : w1.cell? ⟨w.heap.size, 1, none⟩ = some (.int .i64 x1) := ((HX.out.kp (Kp.of_below h1 []) (by simp)).cell 1).trans rfl
        have k2 : w1.cell? ⟨bn, 0, none⟩ = some (.int .i64 at_) := (HB1.out.cell HBN.out.1).trans HBN.out.2
        clear h1
        go_wp2
        go_ret
        exact ⟨rfl, HB1.out⟩
      · have b2 : decide (at_ < x0 + x1) = false := decide_eq_false c2
        rw [b1, b2]
        go_enter Try.func61, Try.ntmps61
        go_wp2_with fail
        (with_reducible refine (HM.out _).mono ?_); rintro e w1 ⟨rfl, h1⟩
        have HB1 : Sh (Below w.heap.size w w1) := ⟨below_step HB0.out h1⟩
        have k0 : w1.cell? ⟨w.heap.size, 0, none⟩ = some (.int .i64 x0) := ((HX.out.kp (Kp.of_below h1 []) (by simp)).cell 0).trans rfl
        have k1 : w1.cell? ⟨w.heap.size, 1, none⟩ = some (.int .i64 x1) := ((HX.out.kp (Kp.of_below h1 []) (by simp)).cell 1).trans rfl
        have k2 : w1.cell? ⟨bn, 0, none⟩ = some (.int .i64 at_) := (HB1.out.cell HBN.out.1).trans HBN.out.2
        clear h1
        go_wp2
        go_ret
        exact ⟨rfl, HB1.out⟩
    · have b1 : decide (x0 ≤ at_) = false := decide_eq_false c1
      have b1' : decide (at_ ≥ x0) = false := decide_eq_false c1
      rw [b1]
      go_enter Try.func61, Try.ntmps61
      go_wp2_with fail
      (with_reducible refine (HM.out _).mono ?_); rintro e w1 ⟨rfl, h1⟩
      have HB1 : Sh (Below w.heap.size w w1) := ⟨below_step HB0.out h1⟩
      have k0 : w1.cell? ⟨w.heap.size, 0, none⟩ = some (.int .i64 x0) := ((HX.out.kp (Kp.of_below h1 []) (by simp)).cell 0).trans rfl
      have k1 : w1.cell? ⟨w.heap.size, 1, none⟩ = some (.int .i64 x1) := ((HX.out.kp (Kp.of_below h1 []) (by simp)).cell 1).trans rfl
      have k2 : w1.cell? ⟨bn, 0, none⟩ = some (.int .i64 at_) := (HB1.out.cell HBN.out.1).trans HBN.out.2
      clear h1
      go_wp2
      go_ret
      exact ⟨rfl, HB1.out⟩
theorem kindP_drop (R : List (List Pc)) (at_ : Int) (n : Nat) (l : List Pc) (h : R[n]? = some l) (i : Int) : kindP (R.drop n) at_ i = if l.any (hasP at_) = true then i + 1 else kindP (R.drop (n + 1)) at_ (i + 1) := by
  obtain ⟨h1, h2⟩ := List.getElem?_eq_some_iff.1 h
  rw [List.drop_eq_getElem_cons h1, h2]
  rfl
set_option maxRecDepth 100000 in
set_option maxHeartbeats 4000000 in
theorem kind_any (A0 A1 A2 A3 A4 A5 A6 : Option Addr) (c0 c1 c2 c3 c4 c5 c6 : Nat) (l0 l1 l2 l3 l4 l5 l6 : List Pc) (at_ : Int) (w : World) (h : Seven w A0 A1 A2 A3 A4 A5 A6 c0 c1 c2 c3 c4 c5 c6 l0 l1 l2 l3 l4 l5 l6) (hl : [l0, l1, l2, l3, l4, l5, l6].flatten.length ≤ 100000) :
    Calls Try.prog 32 #[.agg #[.slice A0 l0.length c0, .slice A1 l1.length c1, .slice A2 l2.length c2, .slice A3 l3.length c3, .slice A4 l4.length c4, .slice A5 l5.length c5, .slice A6 l6.length c6], .int .i64 at_] w fun e w' => e = .returned (.int .i64 (kindP [l0, l1, l2, l3, l4, l5, l6] at_ 0)) ∧ Below w.heap.size w w' := by
  obtain ⟨R, hR⟩ : ∃ R, R = [l0, l1, l2, l3, l4, l5, l6] := ⟨_, rfl⟩
  have h7 : R.length = 7 := by rw [hR]; rfl
  have HLS : Sh (∀ W : World, Below w.heap.size w W → Calls Try.prog 55 #[.agg #[.slice A0 l0.length c0, .slice A1 l1.length c1, .slice A2 l2.length c2, .slice A3 l3.length c3, .slice A4 l4.length c4, .slice A5 l5.length c5, .slice A6 l6.length c6]] W fun e w' => ∃ A c, e = .returned (.slice A 7 c) ∧ 7 ≤ c ∧ Kd.C (Kd.slice 58 k58) w' A 7 R ∧ Below W.heap.size W w') := ⟨fun W hW => by
    rw [hR]; exact lists_any A0 A1 A2 A3 A4 A5 A6 c0 c1 c2 c3 c4 c5 c6 l0 l1 l2 l3 l4 l5 l6 W (h.below hW)⟩
  rw [← hR] at hl ⊢
  have HONE : Sh (∀ (n : Nat) (l : List Pc), R[n]? = some l → l.length ≤ 100000) := ⟨fun n l hn => by
    have h1 := flat_succ hn
    have h2 := flat_le R (n + 1)
    rw [h1, List.length_append] at h2
    omega⟩
  have H7 := Sh.mk h7
  clear hR hl h7 h
  obtain ⟨m0, e0⟩ : ∃ n, n = l0.length := ⟨_, rfl⟩
  obtain ⟨m1, e1⟩ : ∃ n, n = l1.length := ⟨_, rfl⟩
  obtain ⟨m2, e2⟩ : ∃ n, n = l2.length := ⟨_, rfl⟩
  obtain ⟨m3, e3⟩ : ∃ n, n = l3.length := ⟨_, rfl⟩
  obtain ⟨m4, e4⟩ : ∃ n, n = l4.length := ⟨_, rfl⟩
  obtain ⟨m5, e5⟩ : ∃ n, n = l5.length := ⟨_, rfl⟩
  obtain ⟨m6, e6⟩ : ∃ n, n = l6.length := ⟨_, rfl⟩
  rw [← e0, ← e1, ← e2, ← e3, ← e4, ← e5, ← e6] at HLS ⊢
  clear e0 e1 e2 e3 e4 e5 e6
  have HB0 : Sh (Below w.heap.size w ((w.alloc (.cells #[.slice A0 m0 c0, .slice A1 m1 c1, .slice A2 m2 c2, .slice A3 m3 c3, .slice A4 m4 c4, .slice A5 m5 c5, .slice A6 m6 c6] 46)).alloc (.cells #[.int .i64 at_] 3))) := ⟨below_alloc (below_alloc (Below.refl _ _) _) _⟩
  have HAT : Sh (Blk ((w.alloc (.cells #[.slice A0 m0 c0, .slice A1 m1 c1, .slice A2 m2 c2, .slice A3 m3 c3, .slice A4 m4 c4, .slice A5 m5 c5, .slice A6 m6 c6] 46)).alloc (.cells #[.int .i64 at_] 3)) (w.heap.size + 1) 3 #[.int .i64 at_]) := ⟨Blk.new_ _ _ _ (by simp)⟩
  go_enter Try.func32, Try.ntmps32
  go_wp2_with fail
  (with_reducible refine (HLS.out _ HB0.out).mono ?_); rintro e w1 ⟨A, c, rfl, hc7, hC, hB⟩
  have HC := Sh.mk hC
  have HAT1 : Sh (Blk w1 (w.heap.size + 1) 3 #[.int .i64 at_]) := ⟨HAT.out.kp (Kp.of_below hB []) (by simp)⟩
  have HB1 : Sh (Below w.heap.size w w1) := ⟨below_step HB0.out hB⟩
  clear hC hB HAT HB0 HLS
  go_wp2
  go_loopw [6, 7, 12] (fun s6 s7 iv wr => ∃ (n : Nat), n ≤ 7 ∧ iv = .int .i64 n ∧ Sh (kindP R at_ 0 = kindP (R.drop n) at_ (n : Int)) ∧ Sh (Below w1.heap.size w1 wr)) (fun s6 s7 iv _ => 7 - (intOf iv).toNat)
  case atStart => exact ⟨0, by omega, rfl, ⟨by simp⟩, ⟨Below.refl _ _⟩⟩
  case round =>
    obtain ⟨n, hn, rfl, HK, HB⟩ := hrel
    by_cases hlt : n < 7
    · obtain ⟨l, hr⟩ : ∃ r, R[n]? = some r := ⟨_, List.getElem?_eq_getElem (by rw [H7.out]; exact hlt)⟩
      obtain ⟨ad, A0', c0', rfl, hcell, hcc, hCl⟩ := at_many (Kd.C_below HC.out HB.out) n hlt l hr
      have hdrop := kindP_drop R at_ n l hr (n : Int)
      have hat : wr.cell? ⟨w.heap.size + 1, 0, none⟩ = some (.int .i64 at_) := ((HAT1.out.kp (Kp.of_below HB.out []) (by simp)).cell 0).trans rfl
      have hll := HONE.out n l hr
      have HCT : Sh (Calls Try.prog 63 #[.slice A0' l.length c0', .func (.func 61) #[] #[.pointer (some ⟨w.heap.size + 1, 0, none⟩)]] wr fun e w' => e = .returned (.bool (l.any (hasP at_))) ∧ Below wr.heap.size wr w') := ⟨contains_pc (hasP at_) 61 _ A0' c0' l wr (enters_of Try.func61 (by kernel_rfl) rfl) hCl (by omega) (fun W hW x => kind_closure x.f0 x.f1 (w.heap.size + 1) at_ W ((hW.cell (World.block_lt_of_cell? _ _ hat)).trans hat))⟩
      obtain ⟨m, hm⟩ : ∃ m, m = l.length := ⟨_, rfl⟩
      rw [← hm] at hcell HCT
      have q2 : (n : Int) < 7 := by omega
      have v1 : IntKind.i64.wrap ((n : Int) + 1) = (n : Int) + 1 := by rw [IntKind.wrap_i64]; omega
      cases hany : l.any (hasP at_) with
      | true =>
        rw [hany] at hdrop HCT
        have HV : Sh (kindP R at_ 0 = (n : Int) + 1) := ⟨by rw [HK.out, hdrop]; rfl⟩
        clear hdrop hany hm hll hCl hcc hr hat
        go_wp2_with fail
        (with_reducible refine HCT.out.mono ?_); rintro e w2 ⟨rfl, hb⟩
        have HB2 : Sh (Below w.heap.size w w2) := ⟨below_step HB1.out (below_step HB.out hb)⟩
        clear hb
        go_wp2
        go_ret
        exact ⟨by rw [HV.out]; rfl, HB2.out⟩
      | false =>
        rw [hany] at hdrop HCT
        have HV : Sh (kindP R at_ 0 = kindP (R.drop (n + 1)) at_ ((n + 1 : Nat) : Int)) := ⟨by rw [HK.out, hdrop]; rfl⟩
        clear hdrop hany hm hll hCl hcc hr hat
        go_wp2_with fail
        (with_reducible refine HCT.out.mono ?_); rintro e w2 ⟨rfl, hb⟩
        have HB2 : Sh (Below w1.heap.size w1 w2) := ⟨below_step HB.out hb⟩
        clear hb
        go_wp2
        go_roundw
        case measure => simp [intOf]; omega
        case rel => exact ⟨n + 1, by omega, by go_num, HV, HB2⟩
    · have HV : Sh (kindP R at_ 0 = 0) := ⟨by rw [HK.out, List.drop_of_length_le (by have := H7.out; omega)]; rfl⟩
      have HB2 : Sh (Below w.heap.size w wr) := ⟨below_step HB1.out HB.out⟩
      go_wp2
      go_ret
      exact ⟨by rw [HV.out]; rfl, HB2.out⟩
end Go.Proofs.Ythbknmblehecaaa
