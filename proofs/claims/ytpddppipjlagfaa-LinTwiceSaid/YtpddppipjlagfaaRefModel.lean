/- Several texts in one: ModelCls, RefModel. -/
import Derived.Test.YtpddppipjlagfaaModelPure
import Derived.Test.YtpddppipjlagfaaPrx3
import Derived.Test.YtpddppipjlagfaaPrx14
import Derived.Test.YtpddppipjlagfaaPrx15
import Derived.Test.YtpddppipjlagfaaBase
/- Classes of stacks: what the printed functions answer. No statement is proved here. -/
namespace Go.Proofs.Ytpddppipjlagfaa.Pure
open Go.RowKit Go.Proofs.Ytpddppipjlagfaa.Pr Go.Proofs.YtpddppipjlagfaaW.PrintWords Go.Proofs.YtpddppipjlagfaaW.PrintLast Go.Proofs.YtpddppipjlagfaaW.PrintMore
set_option linter.unusedVariables false
set_option linter.unusedSimpArgs false

/-! ### Classes -/
theorem cls_wd {n c : Int} (h : nOk n) (h0 : 0 ≤ c) (h1 : c ≤ cls n) : wd c < n ↔ c < cls n := by
  unfold nOk at h
  have hw := wd_cases c
  generalize e : cls n = q at h1 ⊢
  unfold cls at e
  repeat' split at e
  all_goals omega
theorem cls_range (n : Int) : 0 ≤ cls n ∧ cls n ≤ 7 := by
  unfold cls
  repeat' split
  all_goals omega
theorem class_l0 {n : Int} (h : nOk n) (d : Nat) : ∀ c : Int, 0 ≤ c → c + d = cls n → Ev (fun k => size_Class.l0 k n c) (cls n, true) ∧ Ev (fun k => rickyardref1_Class.l0 k n c) (cls n, true) := by
  induction d with
  | zero =>
    intro c h0 h1
    have hc := cls_wd h h0 (by omega)
    have e : c = cls n := by omega
    have h3 : ¬ wd c < n := by omega
    constructor
    · refine Ev.step1 (fun k => ?_)
      rw [size_Class.l0]
      show (if wd c < n then _ else _) = _
      rw [if_neg h3, e]
    · refine Ev.step1 (fun k => ?_)
      rw [rickyardref1_Class.l0, words_is, Option.bind_some, if_neg h3, e]
  | succ d ih =>
    intro c h0 h1
    have hr := cls_range n
    have hc := cls_wd h h0 (by omega)
    have h3 : wd c < n := by omega
    have e : wrap64 (c + 1) = c + 1 := w64 (by omega) (by omega)
    have := ih (c + 1) (by omega) (by omega)
    constructor
    · refine Ev.step (fun k => ?_) this.1
      rw [size_Class.l0]
      show (if wd c < n then _ else _) = _
      rw [if_pos h3, e]
    · refine Ev.step (fun k => ?_) this.2
      rw [rickyardref1_Class.l0, words_is, Option.bind_some, if_pos h3, e]
theorem class_ev (n : Int) : Ev (fun k => size_Class.f k n) (clsR n) ∧ Ev (fun k => rickyardref1_Class.f k n) (clsR n) := by
  by_cases h : nOk n
  · have e : clsR n = (cls n, true) := by unfold clsR; rw [if_pos h]
    have hr := cls_range n
    obtain ⟨h1, h2⟩ := class_l0 h (cls n).toNat 0 (by omega) (by omega)
    unfold nOk at h
    rw [e]
    exact ⟨Ev.congr (f := fun k => size_Class.j0 k n false) (fun k => by rw [size_Class.f, if_neg (by omega), decide_eq_false (by omega)]) (Ev.step (fun k => by rw [size_Class.j0, if_neg (by simp)]) h1),
      Ev.congr (f := fun k => rickyardref1_Class.j0 k n false) (fun k => by rw [rickyardref1_Class.f, if_neg (by omega), decide_eq_false (by omega)]) (Ev.step (fun k => by rw [rickyardref1_Class.j0, if_neg (by simp)]) h2)⟩
  · have e : clsR n = (0, false) := by unfold clsR; rw [if_neg h]
    rw [e]
    unfold nOk at h
    constructor
    · refine Ev.congr (f := fun k => size_Class.j0 k n true) (fun k => ?_) (Ev.step1 (fun k => by rw [size_Class.j0, if_pos rfl]))
      by_cases c : n < 1
      · rw [size_Class.f, if_pos c]
      · rw [size_Class.f, if_neg c, decide_eq_true (by omega)]
    · refine Ev.congr (f := fun k => rickyardref1_Class.j0 k n true) (fun k => ?_) (Ev.step1 (fun k => by rw [rickyardref1_Class.j0, if_pos rfl]))
      by_cases c : n < 1
      · rw [rickyardref1_Class.f, if_pos c]
      · rw [rickyardref1_Class.f, if_neg c, decide_eq_true (by omega)]

end Go.Proofs.Ytpddppipjlagfaa.Pure

/- The document's model: contracts of Alloc and May. No statement is proved here. -/
namespace Go.Proofs.Ytpddppipjlagfaa
set_option linter.unusedVariables false
set_option linter.unusedSimpArgs false
open Go.RowKit Go.Proofs.YtpddppipjlagfaaW.PrintWords Go.Proofs.YtpddppipjlagfaaW.PrintLast Go.Proofs.YtpddppipjlagfaaW.PrintMore Pr Go.Proofs.Ytpddppipjlagfaa.Pure

theorem words_q (c : Int) (w : World) : Calls Try.prog 49 #[.int .i64 c] w fun e w' => e = .returned (.int .i64 (wd c)) ∧ ∃ m, w' = w.drewN m :=
  (rickyardref1_Words.calls c (wd c) w (words_is c)).mono fun e w' ⟨h, h'⟩ => ⟨h, h'.out⟩
theorem over_q (a b c d : Int) (w : World) : Calls Try.prog 50 #[.int .i64 a, .int .i64 b, .int .i64 c, .int .i64 d] w fun e w' => e = .returned (.bool (overS a b c d)) ∧ ∃ m, w' = w.drewN m :=
  (rickyardref1_Over.calls a b c d (overS a b c d) w (over_is a b c d)).mono fun e w' ⟨h, h'⟩ => ⟨h, h'.out⟩
theorem class_q (n : Int) (w : World) : Calls Try.prog 40 #[.int .i64 n] w fun e w' => e = .returned (.tuple #[.int .i64 (clsR n).1, .bool (clsR n).2]) ∧ ∃ m, w' = w.drewN m := by
  obtain ⟨k, hk⟩ := (class_ev n).2.rounds
  exact (rickyardref1_Class.calls k n (clsR n).1 (clsR n).2 w hk).mono fun e w' ⟨h, h'⟩ => ⟨h, h'.out⟩
/-- How many elements there are behind the last one whose address is below. -/
def lastL (t : Int) : List Lv → Nat → Nat → Nat
  | [], _, q => q
  | x :: l, i, q => lastL t l (i + 1) (if x.f0 < t then i + 1 else q)
def argBad (m n a : Int) : Bool := !(decide (nOk n)) || (decide (a < 0) || (decide (a.tmod 32 ≠ 0) || (decide (a > m) || decide (wd (cls n) > wrap64 (m - a)))))
/-- The document's Alloc, of any list. -/
def rallocG (m : Int) (l : List Lv) (n a : Int) : Int × List Lv × Bool :=
  if argBad m n a = true ∨ l.any (liveOver ⟨a, cls n, -1⟩) = true then (0, [], false)
  else (m, l.take (lastL a l 0 0) ++ [⟨a, cls n, -1⟩] ++ l.drop (lastL a l 0 0), true)
theorem lastL_le (t : Int) (l : List Lv) : ∀ i q, q ≤ i → lastL t l i q ≤ i + l.length := by
  induction l with
  | nil => intro i q h; simpa [lastL] using h
  | cons x l ih =>
    intro i q h
    unfold lastL
    have := ih (i + 1) (if x.f0 < t then i + 1 else q) (by split <;> omega)
    simp only [List.length_cons]
    omega
theorem put_q (A : Option Addr) (c : Nat) (l : List Lv) (q : Nat) (a b o : Int) (w : World) (hr : Kd.C k59 w A l.length l) (hc : l.length ≤ c) (hq : q ≤ l.length) (hl : l.length ≤ 1000) :
    Calls Try.prog 51 #[.slice A l.length c, .int .i64 (q : Int), .agg #[.int .i64 a, .int .i64 b, .int .i64 o]] w fun e w' => ∃ v, e = .returned v ∧ Kd.R k59 59 w' w.heap.size (fun _ => True) v (l.take q ++ [⟨a, b, o⟩] ++ l.drop q) ∧ Below w.heap.size w w' := by
  refine rickyardref13_put.calls A c l (q : Int) a b o (l.take q ++ [⟨a, b, o⟩] ++ l.drop q) w hr hc ?_
  unfold rickyardref13_put.f
  rw [Option.bind_some, if_pos (nn _), if_pos (by omega), Option.bind_some, if_pos (by simp; omega), Option.bind_some, Option.bind_some, if_pos (by simp; omega), Option.bind_some, Option.bind_some, if_pos (by simp; omega)]
  simp
end Go.Proofs.Ytpddppipjlagfaa
