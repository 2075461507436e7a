/- Several texts in one: AccCalls, AccLaw, Prx26, WSized. -/
import Derived.Test.YtpddppipjlagfaaModelLaw1
import Derived.Test.YtpddppipjlagfaaAccepts
import Derived.Test.YtpddppipjlagfaaPrx0
import Derived.SizedLaws
import Derived.ChangeSlices
/- Accepts: a contract that reads. No statement is proved here. -/
namespace Go.Proofs.Ytpddppipjlagfaa
set_option linter.unusedVariables false
set_option linter.unusedSimpArgs false
open Go.RowKit Go.Proofs.YtpddppipjlagfaaW.PrintWords Go.Proofs.YtpddppipjlagfaaW.PrintLast Go.Proofs.YtpddppipjlagfaaW.PrintMore Pr Go.Proofs.Ytpddppipjlagfaa.Pure

section
variable {m : Int} {v : Value} {l : List Lv} {w : World}
theorem accepts_anyR (hm : mOk m) (hr : rtL m l) {D : List De} (hlen : l.length + D.length ≤ 1000) (h : Rd w v l) {B : Option Addr} {cd : Nat} (hD : Kd.C k38 w B D.length D) (hcd : D.length ≤ cd) :
    Calls Try.prog 16 #[.agg #[.int .i64 m, v], .slice B D.length cd] w fun e w' => ∃ u, e = .returned (.tuple #[.agg #[.int .i64 m, u], .int .i64 ((accsL m l D).2.1 : Nat), .bool (accsL m l D).2.2]) ∧ Rd w' u (accsL m l D).1 ∧ Below w.heap.size w w' := by
  obtain ⟨A, c, rfl, h2, h3⟩ := h
  exact (accepts_any m A c l B cd D w hm hr hlen h3 h2 hD hcd).mono (fun e w' ⟨A', c', h4, h5, h6, h7⟩ => ⟨_, h4, Rd.ofF h5 h6, h7⟩)
end
end Go.Proofs.Ytpddppipjlagfaa

/- Deeds by numbers, and how far they are accepted: contracts that read, and what they answer. No statement is proved here. -/
namespace Go.Proofs.Ytpddppipjlagfaa
set_option linter.unusedVariables false
set_option linter.unusedSimpArgs false
open Go.RowKit Go.Proofs.YtpddppipjlagfaaW.PrintWords Go.Proofs.YtpddppipjlagfaaW.PrintLast Go.Proofs.YtpddppipjlagfaaW.PrintMore Pr Go.Proofs.Ytpddppipjlagfaa.Pure

theorem accs_rt {m : Int} (hm : mOk m) (D : List De) : ∀ l : List Lv, rtL m l → rtL m (accsL m l D).1 ∧ (accsL m l D).1.length ≤ l.length + D.length := by
  induction D with
  | nil => intro l h; exact ⟨h, Nat.le_refl _⟩
  | cons d D ih =>
    intro l h
    rw [accsL]
    split
    · next c =>
      obtain ⟨h1, h2, h3⟩ := accR_ok hm h c
      obtain ⟨h4, h5⟩ := ih _ h2
      exact ⟨h4, by rw [List.length_cons]; dsimp only; omega⟩
    · exact ⟨h, by simp⟩
theorem accs_app (m : Int) (P S : List De) : ∀ l : List Lv, ((accsL m l P).2.2 = true → (accsL m l P).2.1 = P.length ∧ accsL m l (P ++ S) = ((accsL m (accsL m l P).1 S).1, P.length + (accsL m (accsL m l P).1 S).2.1, (accsL m (accsL m l P).1 S).2.2)) ∧ ((accsL m l P).2.2 = false → accsL m l (P ++ S) = accsL m l P) := by
  induction P with
  | nil => intro l; exact ⟨fun _ => ⟨rfl, by simp [accsL]⟩, fun h => by simp [accsL] at h⟩
  | cons d P ih =>
    intro l
    rw [List.cons_append, accsL, accsL]
    split
    · obtain ⟨h1, h2⟩ := ih (accR m l d).2.1
      refine ⟨fun h => ?_, fun h => ?_⟩
      · obtain ⟨h3, h4⟩ := h1 h
        dsimp only
        rw [h4]
        exact ⟨by rw [h3, List.length_cons], by dsimp only; rw [List.length_cons]; simp only [Prod.mk.injEq, true_and, and_true]; omega⟩
      · rw [h2 h]
    · exact ⟨fun h => by simp at h, fun _ => rfl⟩
theorem accs_cut {m : Int} (D : List De) (K : Nat) (hK : K ≤ D.length) {q : List Lv} {n : Nat} {ok : Bool} (h : accsL m [] (D.take K) = (q, n, ok)) :
    (ok = true → n = K ∧ accsL m [] D = ((accsL m q (D.drop K)).1, K + (accsL m q (D.drop K)).2.1, (accsL m q (D.drop K)).2.2)) ∧ (ok = false → accsL m [] D = (q, n, false)) := by
  have h1 := accs_app m (D.take K) (D.drop K) []
  rw [List.take_append_drop, h] at h1
  dsimp only at h1
  have hl : (D.take K).length = K := by rw [List.length_take]; omega
  rw [hl] at h1
  exact ⟨h1.1, fun e => by rw [h1.2 e, e]⟩
end Go.Proofs.Ytpddppipjlagfaa

-- Printed by a program of this session (wip/tools/myprint.py) that runs the kit's print with contracts of this session's own.
namespace Go.Proofs.Ytpddppipjlagfaa.Pr
open Go.RowKit Go.Proofs.YtpddppipjlagfaaW.PrintWords Go.Proofs.YtpddppipjlagfaaW.PrintLast Go.Proofs.YtpddppipjlagfaaW.PrintMore
attribute [local go_sem] max2_int min2_int max_two min_two max_three min_three max_four min_four   -- for this text's walks alone
set_option linter.unusedVariables false
set_option linter.unusedSimpArgs false

/-! ### rickyardref1_SameInts: function 19 -/
def rickyardref1_SameInts.l0 : Nat → List Int → List Int → Int → Option (Bool)
 | 0, _, _, _ => none
 | k + 1, x0, x1, x5 => if x5 < (x0.length : Int) then (if 0 ≤ x5 then (if x5 < (x1.length : Int) then (if (rd x0 x5) = (rd x1 x5) then (rickyardref1_SameInts.l0 k x0 x1 (wrap64 (x5 + 1))) else (some false)) else (none)) else (none)) else (some true)
def rickyardref1_SameInts.f (k : Nat) (l0 : List Int) (l1 : List Int) : Option (Bool) := if (l0.length : Int) = (l1.length : Int) then (rickyardref1_SameInts.l0 k l0 l1 0) else (some false)
theorem rickyardref1_SameInts.mono_l : ∀ k, (∀ y0 y1 y2, LeO (rickyardref1_SameInts.l0 k y0 y1 y2) (rickyardref1_SameInts.l0 (k + 1) y0 y1 y2))
 | 0 => fun _ _ _ r h => by simp [rickyardref1_SameInts.l0] at h
 | k + 1 => by
  have ih0 := rickyardref1_SameInts.mono_l k
  ·intro y0 y1 y2
   unfold rickyardref1_SameInts.l0
   repeat' first
   | (with_reducible exact ih0 _ _ _)
   | (with_reducible exact LeO.refl _)
   | (with_reducible exact LeO.none _)
   | (with_reducible refine LeO.ite ?_ ?_)
   | (with_reducible refine LeO.bind ?_ (fun _ => ?_))
   | exact ih0 _ _ _
   | exact LeO.none _
   | refine LeO.ite ?_ ?_
   | refine LeO.bind ?_ (fun _ => ?_)
theorem rickyardref1_SameInts.mono : ∀ a0 a1 k, LeO (rickyardref1_SameInts.f k a0 a1) (rickyardref1_SameInts.f (k + 1) a0 a1) := by
 intro a0 a1 k
 have ih0 := rickyardref1_SameInts.mono_l k
 unfold rickyardref1_SameInts.f
 repeat' first
   | (with_reducible exact ih0 _ _ _)
   | (with_reducible exact LeO.refl _)
   | (with_reducible exact LeO.none _)
   | (with_reducible refine LeO.ite ?_ ?_)
   | (with_reducible refine LeO.bind ?_ (fun _ => ?_))
   | exact ih0 _ _ _
   | exact LeO.none _
   | refine LeO.ite ?_ ?_
   | refine LeO.bind ?_ (fun _ => ?_)
set_option maxHeartbeats 8000000 in
set_option maxRecDepth 100000 in
theorem rickyardref1_SameInts.calls (k : Nat) (A0 : Option Addr) (c0 : Nat) (l0 : List Int) (A1 : Option Addr) (c1 : Nat) (l1 : List Int) (r : Bool) (w : World) (hr0 : Kd.C (Kd.int .i64) w A0 l0.length l0) (hc0 : l0.length ≤ c0) (hr1 : Kd.C (Kd.int .i64) w A1 l1.length l1) (hc1 : l1.length ≤ c1) (h : rickyardref1_SameInts.f k l0 l1 = some r) :
  Calls Try.prog 19 #[.slice A0 l0.length c0, .slice A1 l1.length c1] w fun e w' => e = .returned (.bool r) ∧ Drawn0 w w' := by
 have HR0 := Aside0.mk hr0
 have HC0 := Aside0.mk hc0
 clear hr0 hc0
 have HR1 := Aside0.mk hr1
 have HC1 := Aside0.mk hc1
 clear hr1 hc1
 have H : (if (l0.length : Int) = (l1.length : Int) then (rickyardref1_SameInts.l0 k l0 l1 0) else (some false)) = some r := h
 clear h
 by_cases c3 : (l0.length : Int) = (l1.length : Int)
 ·rw [if_pos c3] at H
  have c3b0 : ((l0.length : Int) == (l1.length : Int)) = true := beq_iff_eq.mpr c3
  have c3b1 : ((l0.length : Int) != (l1.length : Int)) = false := bne_eq_false_iff_eq.mpr c3
  have c3b2 : (l0.length == l1.length) = true := by first | simpa using c3 | (simp at c3 ⊢; omega)
  clear c3
  have H' := Aside0.mk H
  clear H
  go_enter Try.func19, Try.ntmps19
  go_wp2
  repeat (go_quiet (fail); try go_wp2)
  go_loopg [5] k (fun kq v5 w' => ∃ (x5_1 : Int), v5 = .int .i64 x5_1 ∧ Aside0 (rickyardref1_SameInts.l0 kq l0 l1 x5_1 = some r) ∧ Aside0 (kq ≤ k) ∧ Drawn0 w w')
  case atStart => exact ⟨(0), (by first | rfl | (simp; done) | (simp [*]; done)), H', ⟨Nat.le_refl _⟩, by repeat (first | exact Drawn0.refl _ | apply Drawn0.step)⟩
  case round =>
   clear H'
   try clear c1
   try clear p2
   try clear c3
   try clear c3b0
   try clear c3b1
   try clear c3b2
   obtain ⟨x5_1, rfl, HA, HK1, ⟨m1, rfl⟩⟩ := hrel
   cases gk with
   | zero => exact absurd HA.out (by simp [rickyardref1_SameInts.l0])
   | succ k1 =>
    have H := HA.out
    clear HA
    simp only [rickyardref1_SameInts.l0] at H
    by_cases c4 : x5_1 < (l0.length : Int)
    ·rw [if_pos c4] at H
     have c4b0 : decide (x5_1 < (l0.length : Int)) = true := decide_eq_true c4
     clear c4
     by_cases c5 : 0 ≤ x5_1
     ·rw [if_pos c5] at H
      have c5b0 : decide (0 ≤ x5_1) = true := decide_eq_true c5
      clear c5
      by_cases c6 : x5_1 < (l1.length : Int)
      ·rw [if_pos c6] at H
       have c6b0 : decide (x5_1 < (l1.length : Int)) = true := decide_eq_true c6
       clear c6
       by_cases c7 : (rd l0 x5_1) = (rd l1 x5_1)
       ·rw [if_pos c7] at H
        have c7b0 : ((rd l0 x5_1) == (rd l1 x5_1)) = true := beq_iff_eq.mpr c7
        have c7b1 : ((rd l0 x5_1) != (rd l1 x5_1)) = false := bne_eq_false_iff_eq.mpr c7
        clear c7
        have H' := Aside0.mk H
        clear H
        have p264 : 0 ≤ (x5_1 : Int) := of_decide_eq_true (by first | (with_reducible assumption) | assumption)
        have q264 : x5_1 < (l0.length : Int) := of_decide_eq_true (by first | (with_reducible assumption) | assumption)
        obtain ⟨ad264, e264, hx264_0⟩ := Kd.at_int HR0.out x5_1 p264 q264
        cases e264
        replace p264 := eq_true p264
        replace q264 := eq_true q264
        have p265 : 0 ≤ (x5_1 : Int) := of_decide_eq_true (by first | (with_reducible assumption) | assumption)
        have q265 : x5_1 < (l1.length : Int) := of_decide_eq_true (by first | (with_reducible assumption) | assumption)
        obtain ⟨ad265, e265, hx265_0⟩ := Kd.at_int HR1.out x5_1 p265 q265
        cases e265
        replace p265 := eq_true p265
        replace q265 := eq_true q265
        go_wp2
        repeat (go_quiet (fail); try go_wp2)
        go_roundg k1
        case measure => have := HK1.out; omega
        case rel => exact ⟨(wrap64 (x5_1 + 1)), (by first | rfl | (simp; done) | (simp [*]; done)), H', ⟨by have := HK1.out; omega⟩, by repeat (first | exact Drawn0.refl _ | apply Drawn0.step)⟩
       ·rw [if_neg c7] at H
        have c7b0 : ((rd l0 x5_1) == (rd l1 x5_1)) = false := beq_eq_false_iff_ne.mpr c7
        have c7b1 : ((rd l0 x5_1) != (rd l1 x5_1)) = true := bne_iff_ne.mpr c7
        obtain rfl := Option.some.inj H
        have p264 : 0 ≤ (x5_1 : Int) := of_decide_eq_true (by first | (with_reducible assumption) | assumption)
        have q264 : x5_1 < (l0.length : Int) := of_decide_eq_true (by first | (with_reducible assumption) | assumption)
        obtain ⟨ad264, e264, hx264_0⟩ := Kd.at_int HR0.out x5_1 p264 q264
        cases e264
        replace p264 := eq_true p264
        replace q264 := eq_true q264
        have p265 : 0 ≤ (x5_1 : Int) := of_decide_eq_true (by first | (with_reducible assumption) | assumption)
        have q265 : x5_1 < (l1.length : Int) := of_decide_eq_true (by first | (with_reducible assumption) | assumption)
        obtain ⟨ad265, e265, hx265_0⟩ := Kd.at_int HR1.out x5_1 p265 q265
        cases e265
        replace p265 := eq_true p265
        replace q265 := eq_true q265
        go_wp2
        repeat (go_quiet (fail); try go_wp2)
        go_ret
        exact ⟨by first | rfl | (simp; done) | (simp [*]; done), by repeat (first | exact Drawn0.refl _ | apply Drawn0.step)⟩
      ·rw [if_neg c6] at H
       exact absurd H (by simp)
     ·rw [if_neg c5] at H
      exact absurd H (by simp)
    ·rw [if_neg c4] at H
     have c4b0 : decide (x5_1 < (l0.length : Int)) = false := decide_eq_false c4
     clear c4
     obtain rfl := Option.some.inj H
     go_wp2
     repeat (go_quiet (fail); try go_wp2)
     go_ret
     exact ⟨by first | rfl | (simp; done) | (simp [*]; done), by repeat (first | exact Drawn0.refl _ | apply Drawn0.step)⟩
 ·rw [if_neg c3] at H
  have c3b0 : ((l0.length : Int) == (l1.length : Int)) = false := beq_eq_false_iff_ne.mpr c3
  have c3b1 : ((l0.length : Int) != (l1.length : Int)) = true := bne_iff_ne.mpr c3
  have c3b2 : (l0.length == l1.length) = false := by first | simpa using c3 | (simp at c3 ⊢; omega)
  obtain rfl := Option.some.inj H
  go_enter Try.func19, Try.ntmps19
  go_wp2
  repeat (go_quiet (fail); try go_wp2)
  go_ret
  exact ⟨by first | rfl | (simp; done) | (simp [*]; done), by repeat (first | exact Drawn0.refl _ | apply Drawn0.step)⟩

end Go.Proofs.Ytpddppipjlagfaa.Pr

-- PRINTED BY print.sh 35421559b90ae4d0a3588c463048766b98c2df88dd9212a6774a882060cdf62d: not written by this session
-- PRINTED WORDS (module Derived/Print/Sized.lean): go-gate-2's, for the rows of laws over slices: an AI agent of Go's test side, Tue Nov 17 2026; no person has read it. Lean checks it.
namespace Go.Proofs.YtpddppipjlagfaaW.PrintWords
open Go.ChangeShapes Go.WideShapes
/-- A row's slice of whole numbers is no longer than its weight allows. -/
theorem sized_ints {H : Type} {enc : TypeId × Value → H} {P : Program} {W : World} {base : Nat} {spare : Nat → Bool} {held : Bool} {t e : TypeId} {k : IntKind} {a : Option Addr} {len cap : Nat} {d : DataW H} {ps : List MemPlace} {ts : List TypeId} {ds : List (DataW H)} {j : Nat}
    (hsz : (DataW.weightsEach P ts ds).all (· ≤ reachBytes) = true) (ht : ts[j]? = some t) (hd : ds[j]? = some d) (hu : P.underlying t = some (.slice e)) (he : P.underlying e = some (.int k)) (hc : P.cellsOf e = 1) {B : Nat} (hB : P.bytesOf e = B)
    (h : DataW.Trod enc P W base spare held t (.slice a len cap) d ps) : len * B ≤ 140737488351232 := by
  obtain ⟨fuel, hf⟩ := h
  rcases open_ints hu he hc hf with ⟨hcs, _⟩ | ⟨x, l, c, zs, hcs, _, hl, _, hz, hx, _, _⟩
  · simp [Value.cells] at hcs
    obtain ⟨rfl, rfl, rfl⟩ := hcs
    simp
  · simp [Value.cells] at hcs
    obtain ⟨rfl, rfl, rfl⟩ := hcs
    obtain ⟨hx, _⟩ := Prod.mk.inj hx
    subst hx
    have z := sized_slice hsz ht hd hu
    rw [hB] at z
    have hl2 : len ≤ zs.length := by
      rw [hz]
      split
      · exact hl
      · exact Nat.le_refl _
    have h1 : (lits (H := H) k (zs.take len)).length + (lits (H := H) k (zs.drop len)).length = zs.length := by
      simp [lits]
      omega
    rw [h1] at z
    exact Nat.le_trans (Nat.mul_le_mul_right _ hl2) z
end Go.Proofs.YtpddppipjlagfaaW.PrintWords
