/- Several texts in one: LargePure, LargeLaw1. -/
import Derived.Test.YtflhbakjlbmfbaaPure
import Derived.Test.YtflhbakjlbmfbaaLargeClo
import Derived.Test.YtflhbakjlbmfbaaPrx3
import Derived.Test.YtflhbakjlbmfbaaPrx7
import Derived.Test.YtflhbakjlbmfbaaPrx17
import Derived.Test.YtflhbakjlbmfbaaPrx4
/- Large stacks as lists: which lists are right, what is put, taken, dropped. No statement is proved here. -/
namespace Go.Proofs.Ytflhbakjlbmfbaa.Pure
open Go.RowKit Go.Proofs.Ytflhbakjlbmfbaa.Pr Go.Proofs.YtflhbakjlbmfbaaW.PrintWords Go.Proofs.YtflhbakjlbmfbaaW.PrintLast Go.Proofs.YtflhbakjlbmfbaaW.PrintMore
set_option linter.unusedVariables false
set_option linter.unusedSimpArgs false
abbrev Bg := S29
instance : DecidableEq Bg := fun x y => decidable_of_iff (x.f0 = y.f0 ∧ x.f1 = y.f1) (by cases x; cases y; simp)

/-- How many words a class has. -/
def wd (c : Int) : Int := (sizeRow c).1
theorem wd_cases (c : Int) : (c = 0 ∧ wd c = 32) ∨ (c = 1 ∧ wd c = 64) ∨ (c = 2 ∧ wd c = 128) ∨ (c = 3 ∧ wd c = 256) ∨ (c = 4 ∧ wd c = 512) ∨ (c = 5 ∧ wd c = 1024) ∨ (c = 6 ∧ wd c = 2048) ∨ (c = 7 ∧ wd c = 4096) ∨ ((c < 0 ∨ 8 ≤ c) ∧ wd c = 0) := by
 unfold wd sizeRow
 repeat' split
 all_goals simp_all
 all_goals omega
theorem words_is (c : Int) : rickyardref1_Words.f c = some (wd c) := by
 unfold rickyardref1_Words.f
 rcases wd_cases c with ⟨rfl, h⟩ | ⟨rfl, h⟩ | ⟨rfl, h⟩ | ⟨rfl, h⟩ | ⟨rfl, h⟩ | ⟨rfl, h⟩ | ⟨rfl, h⟩ | ⟨rfl, h⟩ | ⟨hc, h⟩
 ·rw [h]; rfl
 ·rw [h]; rfl
 ·rw [h]; rfl
 ·rw [h]; rfl
 ·rw [h]; rfl
 ·rw [h]; rfl
 ·rw [h]; rfl
 ·rw [h]; rfl
 ·rw [h]
  by_cases c0 : c < 0
  ·rw [if_pos c0]
  ·rw [if_neg c0, if_pos (by omega)]
theorem small_is (c : Int) : (sizeRow c).2.2.2 > 0 ↔ 0 ≤ c ∧ c < 4 := by
 unfold sizeRow
 repeat' split
 all_goals simp_all
 all_goals omega
/-- A large stack may be. -/
def mayP (b : Bg) : Prop := 4 ≤ b.f1 ∧ b.f1 < 8 ∧ 0 ≤ b.f0 ∧ b.f0 % 64 = 0 ∧ b.f0 + wd b.f1 ≤ 16384
instance (b : Bg) : Decidable (mayP b) := by unfold mayP; infer_instance
theorem wd_big {c : Int} (h1 : 4 ≤ c) (h2 : c < 8) : 512 ≤ wd c ∧ wd c ≤ 4096 ∧ wd c % 64 = 0 := by
 rcases wd_cases c with ⟨rfl, h⟩ | ⟨rfl, h⟩ | ⟨rfl, h⟩ | ⟨rfl, h⟩ | ⟨rfl, h⟩ | ⟨rfl, h⟩ | ⟨rfl, h⟩ | ⟨rfl, h⟩ | ⟨hc, h⟩ <;> omega
theorem maybig_is (a c : Int) : rickyardref9_MayBig.f a c = some (decide (mayP ⟨a, c⟩)) := by
 have e : mayP ⟨a, c⟩ ↔ (4 ≤ c ∧ c < 8 ∧ 0 ≤ a ∧ a % 64 = 0 ∧ a + wd c ≤ 16384) := Iff.rfl
 unfold rickyardref9_MayBig.f
 by_cases c1 : c < 4
 ·rw [if_pos c1, decide_eq_false (by rw [e]; omega)]
 ·rw [if_neg c1]
  by_cases c2 : c ≥ 8
  ·rw [if_pos c2, decide_eq_false (by rw [e]; omega)]
  ·rw [if_neg c2]
   by_cases c3 : a < 0
   ·rw [if_pos c3, decide_eq_false (by rw [e]; omega)]
   ·rw [if_neg c3, tmod_emod (by omega)]
    have hw := wd_big (c := c) (by omega) (by omega)
    by_cases c4 : a % 64 = 0
    ·rw [if_pos c4]
     by_cases c5 : a ≤ 16384
     ·rw [if_pos c5, words_is, Option.bind_some, w64 (by omega) (by omega)]
      congr 1
      exact decide_eq_decide.2 (by rw [e]; omega)
     ·rw [if_neg c5, decide_eq_false (by rw [e]; omega)]
    ·rw [if_neg c4, decide_eq_false (by rw [e]; omega)]
theorem may_is (a c : Int) : large_may.f a c = some (decide (mayP ⟨a, c⟩)) := by
 unfold large_may.f size_Words.f size_Small.f size_of.f
 have e : mayP ⟨a, c⟩ ↔ (4 ≤ c ∧ c < 8 ∧ 0 ≤ a ∧ a % 64 = 0 ∧ a + wd c ≤ 16384) := Iff.rfl
 simp only [Option.bind_some]
 have hs := small_is c
 have hw : (sizeRow c).1 = wd c := rfl
 rw [hw]
 have hc := wd_cases c
 by_cases c1 : wd c > 0
 ·rw [if_pos c1]
  by_cases c2 : (sizeRow c).2.2.2 > 0
  ·rw [decide_eq_true c2, if_pos rfl, decide_eq_false (by rw [e]; have := hs.1 c2; omega)]
  ·rw [decide_eq_false c2, if_neg (by simp)]
   have c3 : ¬ (0 ≤ c ∧ c < 4) := fun h => c2 (hs.2 h)
   by_cases c4 : a ≥ 0
   ·rw [if_pos c4, tmod_emod (by omega)]
    by_cases c5 : a % 64 = 0
    ·rw [if_pos c5, w64 (by omega) (by omega)]
     congr 1
     exact decide_eq_decide.2 (by rw [e]; omega)
    ·rw [if_neg c5, decide_eq_false (by rw [e]; omega)]
   ·rw [if_neg c4, decide_eq_false (by rw [e]; omega)]
 ·rw [if_neg c1, decide_eq_false (by rw [e]; omega)]
theorem over_is (a n b m : Int) : rickyardref1_Over.f a n b m = some (overS a n b m) := by
 unfold rickyardref1_Over.f overS
 by_cases c1 : a < 0
 ·rw [if_pos c1, decide_eq_false (by omega)]
 ·rw [if_neg c1]
  by_cases c2 : a > 2305843009213693952
  ·rw [if_pos c2, decide_eq_false (by omega)]
  ·rw [if_neg c2]
   by_cases c3 : b < 0
   ·rw [if_pos c3, decide_eq_false (by omega)]
   ·rw [if_neg c3]
    by_cases c4 : b > 2305843009213693952
    ·rw [if_pos c4, decide_eq_false (by omega)]
    ·rw [if_neg c4]
     by_cases c5 : n < 1
     ·rw [if_pos c5, decide_eq_false (by omega)]
     ·rw [if_neg c5]
      by_cases c6 : n > 2305843009213693952
      ·rw [if_pos c6, decide_eq_false (by omega)]
      ·rw [if_neg c6]
       by_cases c7 : m < 1
       ·rw [if_pos c7, decide_eq_false (by omega)]
       ·rw [if_neg c7]
        by_cases c8 : m > 2305843009213693952
        ·rw [if_pos c8, decide_eq_false (by omega)]
        ·rw [if_neg c8, w64 (n := b + m) (by omega) (by omega), w64 (n := a + n) (by omega) (by omega)]
         by_cases c9 : a < b + m
         ·rw [if_pos c9]
          congr 1
          exact decide_eq_decide.2 (by omega)
         ·rw [if_neg c9, decide_eq_false (by omega)]
theorem overBig_is (x b : Bg) : rickyardref9_overBig.f x.f0 x.f1 b.f0 b.f1 = some (bigOver b x) := by
 unfold rickyardref9_overBig.f
 simp only [words_is, over_is, Option.bind_some]
 rfl
/-- One stands ahead of another one. -/
def ahd (x b : Bg) : Prop := x.f1 < b.f1 ∨ (x.f1 = b.f1 ∧ x.f0 < b.f0)
instance (x b : Bg) : Decidable (ahd x b) := by unfold ahd; infer_instance
theorem ahead_is (x b : Bg) : rickyardref9_ahead.f x.f0 x.f1 b.f0 b.f1 = some (decide (ahd x b)) := by
 have e : ahd x b ↔ (x.f1 < b.f1 ∨ (x.f1 = b.f1 ∧ x.f0 < b.f0)) := Iff.rfl
 unfold rickyardref9_ahead.f
 by_cases c : x.f1 = b.f1
 ·rw [if_pos c]; congr 1; exact decide_eq_decide.2 (by rw [e]; omega)
 ·rw [if_neg c]; congr 1; exact decide_eq_decide.2 (by rw [e]; omega)
theorem order_ahd (b x : Bg) : bigOrder b x < 0 ↔ ahd x b := by
 unfold bigOrder ahd
 repeat' split
 all_goals omega
/-- Two have a word in common. -/
theorem bov_is {x b : Bg} (hx : mayP x) (hb : mayP b) : bigOver b x = true ↔ (x.f0 < b.f0 + wd b.f1 ∧ b.f0 < x.f0 + wd x.f1) := by
 unfold bigOver overS
 have h1 := wd_big hx.1 hx.2.1
 have h2 := wd_big hb.1 hb.2.1
 obtain ⟨a1, a2, a3, a4, a5⟩ := hx
 obtain ⟨b1, b2, b3, b4, b5⟩ := hb
 have e1 : (sizeRow x.f1).1 = wd x.f1 := rfl
 have e2 : (sizeRow b.f1).1 = wd b.f1 := rfl
 rw [decide_eq_true_eq, e1, e2]
 omega
/-- A list is right. -/
def rtB : List Bg → Prop
 | [] => True
 | x :: l => mayP x ∧ (∀ y ∈ l, ahd x y ∧ bigOver y x = false) ∧ rtB l
theorem rtB_may {l : List Bg} (h : rtB l) {x : Bg} (hx : x ∈ l) : mayP x := by
 induction l with
 | nil => cases hx
 | cons y l ih =>
  rcases List.mem_cons.1 hx with rfl | hx
  ·exact h.1
  ·exact ih h.2.2 hx
/-- What is put. -/
def ins (b : Bg) : List Bg → List Bg
 | [] => [b]
 | x :: l => if ahd x b then x :: ins b l else b :: x :: l
/-- How many stand ahead. -/
def cnt (b : Bg) : List Bg → Nat
 | [] => 0
 | x :: l => if ahd x b then cnt b l + 1 else 0
theorem cnt_le (b : Bg) (l : List Bg) : cnt b l ≤ l.length := by
 induction l with
 | nil => exact Nat.le_refl _
 | cons x l ih => unfold cnt; split <;> simp <;> omega
theorem ins_cnt (b : Bg) (l : List Bg) : ins b l = l.take (cnt b l) ++ [b] ++ l.drop (cnt b l) := by
 induction l with
 | nil => rfl
 | cons x l ih =>
  unfold ins cnt
  split
  ·rw [ih]; simp
  ·simp
theorem ins_len (b : Bg) (l : List Bg) : (ins b l).length = l.length + 1 := by
 induction l with
 | nil => rfl
 | cons x l ih => unfold ins; split <;> simp [ih]
theorem mem_ins {b x : Bg} {l : List Bg} : x ∈ ins b l ↔ x = b ∨ x ∈ l := by
 induction l with
 | nil => simp [ins]
 | cons y l ih =>
  unfold ins
  split
  ·simp only [List.mem_cons, ih]; grind
  ·simp only [List.mem_cons]
theorem bov_symm {x b : Bg} (hx : mayP x) (hb : mayP b) (h : bigOver b x = false) : bigOver x b = false := by
 have h1 := bov_is hx hb
 have h2 := bov_is hb hx
 cases h3 : bigOver x b with
 | false => rfl
 | true =>
  have h4 := h2.1 h3
  have := h1.2 ⟨h4.2, h4.1⟩
  rw [h] at this
  cases this
theorem ahd_trans {x y z : Bg} (h1 : ahd x y) (h2 : ahd y z) : ahd x z := by
 unfold ahd at *; omega
theorem nahd {x b : Bg} (hx : mayP x) (hb : mayP b) (h : ¬ ahd x b) (ho : bigOver b x = false) : ahd b x := by
 have h1 := wd_big hx.1 hx.2.1
 have h2 := wd_big hb.1 hb.2.1
 unfold ahd at *
 by_cases c : x.f1 = b.f1 ∧ x.f0 = b.f0
 ·have := (bov_is hx hb).2 (by omega)
  rw [ho] at this; cases this
 ·omega
theorem ins_rt {b : Bg} (hb : mayP b) {l : List Bg} (h : rtB l) (ho : ∀ x ∈ l, bigOver b x = false) : rtB (ins b l) := by
 induction l with
 | nil => exact ⟨hb, by simp, trivial⟩
 | cons x l ih =>
  obtain ⟨h1, h2, h3⟩ := h
  have hox := ho x List.mem_cons_self
  unfold ins
  split
  next c =>
   refine ⟨h1, fun y hy => ?_, ih h3 (fun y hy => ho y (List.mem_cons_of_mem _ hy))⟩
   rcases mem_ins.1 hy with rfl | hy
   ·exact ⟨c, hox⟩
   ·exact h2 y hy
  next c =>
   have hbx := nahd h1 hb c hox
   refine ⟨hb, fun y hy => ?_, h1, h2, h3⟩
   rcases List.mem_cons.1 hy with rfl | hy
   ·exact ⟨hbx, bov_symm h1 hb hox⟩
   ·exact ⟨ahd_trans hbx (h2 y hy).1, bov_symm (rtB_may h3 hy) hb (ho y (List.mem_cons_of_mem _ hy))⟩
/-- What is put, and how it ends. -/
def putR (l : List Bg) (b : Bg) : List Bg × Int := if mayP b then (if l.any (bigOver b) = true then ([], 4) else (ins b l, 0)) else ([], 1)
end Go.Proofs.Ytflhbakjlbmfbaa.Pure

/- What the printed functions on large stacks answer. No statement is proved here. -/
namespace Go.Proofs.Ytflhbakjlbmfbaa.Pure
open Go.RowKit Go.Proofs.Ytflhbakjlbmfbaa.Pr Go.Proofs.YtflhbakjlbmfbaaW.PrintWords Go.Proofs.YtflhbakjlbmfbaaW.PrintLast Go.Proofs.YtflhbakjlbmfbaaW.PrintMore
set_option linter.unusedVariables false
set_option linter.unusedSimpArgs false
theorem rd_mid (pre : List Bg) (x : Bg) (suf : List Bg) : rd_T29 (pre ++ x :: suf) (pre.length : Int) = x := by
 simp [rd_T29]
theorem mid_lt {α : Type} (pre : List α) (x : α) (suf : List α) : (pre.length : Int) < ((pre ++ x :: suf).length : Int) := by
 simp; omega
theorem nn (n : Nat) : (0 : Int) ≤ (n : Int) := Int.natCast_nonneg n
theorem nxt {α : Type} (pre : List α) (x : α) (h : pre.length < 9223372036854775807) : wrap64 ((pre.length : Int) + 1) = ((pre ++ [x]).length : Int) := by
 rw [w64 (by omega) (by omega)]; simp
theorem end_nlt {α : Type} (pre : List α) : ¬ ((pre.length : Int) < ((pre ++ []).length : Int)) := by simp
theorem snoc {α : Type} (pre : List α) (x : α) (suf : List α) : pre ++ x :: suf = (pre ++ [x]) ++ suf := by simp

/-- Two lists are alike. -/
theorem same_l0 (suf suf' : List Bg) : ∀ (pre pre' : List Bg), pre.length = pre'.length → suf.length = suf'.length → (pre ++ suf).length < 9223372036854775807 →
  Ev (fun k => rickyardref9_SameBig.l0 k (pre ++ suf) (pre' ++ suf') (pre.length : Int)) (decide (suf = suf')) := by
 induction suf generalizing suf' with
 | nil =>
  intro pre pre' h1 h2 h3
  have : suf' = [] := List.eq_nil_of_length_eq_zero h2.symm
  subst this
  refine Ev.step1 (fun k => ?_)
  simp only [rickyardref9_SameBig.l0]
  rw [if_neg (end_nlt pre)]
  rfl
 | cons x suf ih =>
  intro pre pre' h1 h2 h3
  cases suf' with
  | nil => cases h2
  | cons y suf' =>
   have hl : pre.length < 9223372036854775807 := by simp at h3; omega
   have e1 := rd_mid pre x suf
   have e2 := rd_mid pre' y suf'
   by_cases c : x = y
   ·subst c
    have := ih suf' (pre ++ [x]) (pre' ++ [x]) (by simp [h1]) (by simpa using h2) (by simpa using h3)
    rw [← snoc, ← snoc] at this
    refine Ev.eq (Ev.step (fun k => ?_) this) (by simp)
    simp only [rickyardref9_SameBig.l0]
    rw [if_pos (mid_lt pre x suf), if_pos (nn _), if_pos (by rw [h1]; exact mid_lt pre' x suf'), e1, h1, e2, if_neg (by simp), ← h1, nxt pre x hl]
   ·refine Ev.eq (r := false) (Ev.step1 (fun k => ?_)) (by simp [c])
    simp only [rickyardref9_SameBig.l0]
    rw [if_pos (mid_lt pre x suf), if_pos (nn _), if_pos (by rw [h1]; exact mid_lt pre' y suf'), e1, h1, e2, if_pos (by
     rcases x with ⟨x0, x1⟩
     rcases y with ⟨y0, y1⟩
     simp at c ⊢
     by_cases d : x0 = y0
     ·right; exact c d
     ·left; exact d)]
theorem same_ev (l m : List Bg) (h : l.length < 9223372036854775807) : Ev (fun k => rickyardref9_SameBig.f k l m) (decide (l = m)) := by
 by_cases c : l.length = m.length
 ·have := same_l0 l m [] [] rfl c (by simpa using h)
  refine Ev.eq ?_ rfl
  obtain ⟨K, hK⟩ := this
  refine ⟨K, fun k hk => ?_⟩
  simp only [rickyardref9_SameBig.f]
  rw [if_pos (by omega)]
  exact hK k hk
 ·refine Ev.some_ (fun k => ?_)
  simp only [rickyardref9_SameBig.f]
  rw [if_neg (by omega), decide_eq_false (by intro h; rw [h] at c; exact c rfl)]

/-- The document's put: the round behind an element. -/
theorem putR_step_over (pre suf : List Bg) (x b : Bg) (q : Int) (h : bigOver b x = true) (k : Nat) :
  rickyardref9_PutBig.l0 (k + 1) (pre ++ x :: suf) q (pre.length : Int) b.f0 b.f1 = some ([], 4) := by
 simp only [rickyardref9_PutBig.l0]
 rw [if_pos (mid_lt pre x suf), if_pos (nn _), rd_mid, overBig_is, Option.bind_some, if_pos h]
theorem putR_step_ahd (pre suf : List Bg) (x b : Bg) (q : Int) (h : bigOver b x = false) (c : ahd x b) (hl : pre.length < 9223372036854775807) (k : Nat) :
  rickyardref9_PutBig.l0 (k + 1) (pre ++ x :: suf) q (pre.length : Int) b.f0 b.f1 = rickyardref9_PutBig.l0 k (pre ++ x :: suf) ((pre ++ [x]).length : Int) ((pre ++ [x]).length : Int) b.f0 b.f1 := by
 simp only [rickyardref9_PutBig.l0]
 rw [if_pos (mid_lt pre x suf), if_pos (nn _), rd_mid, overBig_is, Option.bind_some, if_neg (by rw [h]; simp), ahead_is, Option.bind_some, if_pos (decide_eq_true c), nxt pre x hl]
theorem putR_step_not (pre suf : List Bg) (x b : Bg) (q : Int) (h : bigOver b x = false) (c : ¬ ahd x b) (hl : pre.length < 9223372036854775807) (k : Nat) :
  rickyardref9_PutBig.l0 (k + 1) (pre ++ x :: suf) q (pre.length : Int) b.f0 b.f1 = rickyardref9_PutBig.l0 k (pre ++ x :: suf) q ((pre ++ [x]).length : Int) b.f0 b.f1 := by
 simp only [rickyardref9_PutBig.l0]
 rw [if_pos (mid_lt pre x suf), if_pos (nn _), rd_mid, overBig_is, Option.bind_some, if_neg (by rw [h]; simp), ahead_is, Option.bind_some, if_neg (by simpa using c), nxt pre x hl]
theorem putR_end (l : List Bg) (b : Bg) (q : Nat) (hq : q ≤ l.length) (hl : l.length ≤ 1000) (k : Nat) :
  rickyardref9_PutBig.l0 (k + 1) l (q : Int) (l.length : Int) b.f0 b.f1 = some (l.take q ++ [b] ++ l.drop q, 0) := by
 simp only [rickyardref9_PutBig.l0]
 rw [if_neg (Int.lt_irrefl _)]
 simp only [Option.bind_some]
 rw [if_pos (nn _), if_pos (by omega), if_pos (by simp; omega), if_pos (by simp; omega), if_pos (by simp; omega)]
 simp
/-- The document's put: behind those that stand ahead. -/
theorem putR_rest (b : Bg) (suf : List Bg) : ∀ (pre : List Bg) (q : Nat), q ≤ pre.length → (∀ x ∈ suf, ¬ ahd x b) → (pre ++ suf).length ≤ 1000 →
  Ev (fun k => rickyardref9_PutBig.l0 k (pre ++ suf) (q : Int) (pre.length : Int) b.f0 b.f1) (if suf.any (bigOver b) = true then ([], 4) else ((pre ++ suf).take q ++ [b] ++ (pre ++ suf).drop q, 0)) := by
 induction suf with
 | nil =>
  intro pre q h1 h2 h3
  refine Ev.eq (Ev.step1 (fun k => ?_)) (by rw [if_neg (by simp)])
  simp only [List.append_nil] at h3 ⊢
  exact putR_end pre b q h1 h3 k
 | cons x suf ih =>
  intro pre q h1 h2 h3
  have hl : pre.length < 9223372036854775807 := by simp at h3; omega
  by_cases c : bigOver b x = true
  ·exact Ev.eq (Ev.step1 (fun k => putR_step_over pre suf x b q c k)) (by simp [c])
  ·have c' : bigOver b x = false := by simpa using c
   have := ih (pre ++ [x]) q (by simp; omega) (fun y hy => h2 y (List.mem_cons_of_mem _ hy)) (by simpa using h3)
   rw [← snoc] at this
   exact Ev.eq (Ev.step (fun k => putR_step_not pre suf x b q c' (h2 x List.mem_cons_self) hl k) this) (by simp [c'])
theorem putR_l0 (b : Bg) (suf : List Bg) : ∀ (pre : List Bg), rtB suf → (pre ++ suf).length ≤ 1000 →
  Ev (fun k => rickyardref9_PutBig.l0 k (pre ++ suf) (pre.length : Int) (pre.length : Int) b.f0 b.f1) (if suf.any (bigOver b) = true then ([], 4) else (pre ++ ins b suf, 0)) := by
 induction suf with
 | nil =>
  intro pre h2 h3
  refine Ev.eq (Ev.step1 (fun k => ?_)) (by rw [if_neg (by simp)])
  simp only [List.append_nil] at h3 ⊢
  refine (putR_end pre b pre.length (Nat.le_refl _) h3 k).trans ?_
  simp [ins]
 | cons x suf ih =>
  intro pre h2 h3
  have hl : pre.length < 9223372036854775807 := by simp at h3; omega
  by_cases c : bigOver b x = true
  ·exact Ev.eq (Ev.step1 (fun k => putR_step_over pre suf x b _ c k)) (by simp [c])
  ·have c' : bigOver b x = false := by simpa using c
   by_cases d : ahd x b
   ·have := ih (pre ++ [x]) h2.2.2 (by simpa using h3)
    rw [← snoc] at this
    exact Ev.eq (Ev.step (fun k => putR_step_ahd pre suf x b _ c' d hl k) this) (by simp [c', ins, d])
   ·have hn : ∀ y ∈ suf, ¬ ahd y b := by
     intro y hy hyb
     exact d (ahd_trans (h2.2.1 y hy).1 hyb)
    have := putR_rest b suf (pre ++ [x]) pre.length (by simp) hn (by simpa using h3)
    rw [← snoc] at this
    exact Ev.eq (Ev.step (fun k => putR_step_not pre suf x b _ c' d hl k) this) (by simp [c', ins, d])
theorem putBig_ev {l : List Bg} (hr : rtB l) (hl : l.length ≤ 1000) (b : Bg) : Ev (fun k => rickyardref9_PutBig.f k l b.f0 b.f1) (putR l b) := by
 unfold putR
 by_cases c : mayP b
 ·rw [if_pos c]
  have := putR_l0 b l [] hr (by simpa using hl)
  obtain ⟨K, hK⟩ := this
  refine ⟨K, fun k hk => ?_⟩
  have := hK k hk
  simp only [rickyardref9_PutBig.f]
  rw [maybig_is, Option.bind_some, if_pos (decide_eq_true c)]
  simpa using this
 ·rw [if_neg c]
  refine Ev.some_ (fun k => ?_)
  simp only [rickyardref9_PutBig.f]
  rw [maybig_is, Option.bind_some, if_neg (by simpa using c)]

/-- Binary search in a list whose first n are below and whose others are not. -/
theorem bsI_is {α : Type} (cf : α → Int) (l : List α) (n : Nat) (hn : n ≤ l.length) (h1 : ∀ i (h : i < l.length), i < n → cf l[i] < 0) (h2 : ∀ i (h : i < l.length), n ≤ i → ¬ cf l[i] < 0) (i j : Nat) (hi : i ≤ n) (hj : n ≤ j) (hjl : j ≤ l.length) : bsI cf l i j = n := by
 induction i, j using bsI.induct (cf := cf) (l := l) with
 | case1 i j h c ih =>
  rw [bsI, dif_pos h, if_pos c]
  have hm : (i + j) / 2 < l.length := by omega
  rw [List.getElem?_eq_getElem hm] at c
  refine ih ?_ hj hjl
  by_cases d : n ≤ (i + j) / 2
  ·exact absurd c (h2 _ hm d)
  ·omega
 | case2 i j h c ih =>
  rw [bsI, dif_pos h, if_neg c]
  have hm : (i + j) / 2 < l.length := by omega
  rw [List.getElem?_eq_getElem hm] at c
  refine ih hi ?_ (by omega)
  by_cases d : (i + j) / 2 < n
  ·exact absurd (h1 _ hm d) c
  ·omega
 | case3 i j h => rw [bsI, dif_neg h]; omega
theorem cnt_below {b : Bg} {l : List Bg} : ∀ i (h : i < l.length), i < cnt b l → ahd l[i] b := by
 induction l with
 | nil => intro i h; simp at h
 | cons x l ih =>
  intro i h hc
  unfold cnt at hc
  split at hc
  next d =>
   cases i with
   | zero => simpa using d
   | succ i => simpa using ih i (by simpa using h) (by omega)
  next d => omega
theorem cnt_above {b : Bg} {l : List Bg} (hr : rtB l) : ∀ i (h : i < l.length), cnt b l ≤ i → ¬ ahd l[i] b := by
 induction l with
 | nil => intro i h; simp at h
 | cons x l ih =>
  intro i h hc
  unfold cnt at hc
  split at hc
  next d =>
   cases i with
   | zero => omega
   | succ i => simpa using ih hr.2.2 i (by simpa using h) (by omega)
  next d =>
   cases i with
   | zero => simpa using d
   | succ i =>
    intro e
    have hi : i < l.length := by simpa using h
    exact d (ahd_trans (hr.2.1 l[i] (List.getElem_mem hi)).1 (by simpa using e))
theorem bs_cnt {b : Bg} {l : List Bg} (hr : rtB l) : bsI (bigOrder b) l 0 l.length = cnt b l := by
 refine bsI_is _ l _ (cnt_le b l) ?_ ?_ 0 l.length (Nat.zero_le _) (cnt_le b l) (Nat.le_refl _)
 ·intro i h hc; exact (order_ahd b l[i]).2 (cnt_below i h hc)
 ·intro i h hc e; exact cnt_above hr i h hc ((order_ahd b l[i]).1 e)
theorem put_is {l : List Bg} (hr : rtB l) (hl : l.length ≤ 1000) (b : Bg) : large_Put.f l b.f0 b.f1 = some (putR l b) := by
 unfold large_Put.f putR
 rw [may_is, Option.bind_some]
 by_cases c : mayP b
 ·rw [if_pos (decide_eq_true c), if_pos c]
  unfold api_Big_40_41.f
  have hb : (⟨b.f0, b.f1⟩ : Bg) = b := rfl
  rw [if_pos (by omega), Option.bind_some, hb]
  by_cases d : l.any (bigOver b) = true
  ·rw [if_pos d, if_pos d]
  ·rw [if_neg d, if_neg d]
   unfold api_Big_43_44.f
   rw [if_pos (by omega), Option.bind_some, hb]
   dsimp only
   rw [bs_cnt hr]
   unfold api_Big_46.f
   rw [if_pos (by omega), Option.bind_some]
   unfold api_Big_45.f ins_big
   have := cnt_le b l
   rw [if_pos ⟨rfl, nn _, by omega, by omega⟩, Option.bind_some, ins_cnt]
   rfl
 ·rw [if_neg (by simpa using c), if_neg c]
/-- What is taken: the list left, where, how it ends. -/
def takeR (l : List Bg) (c : Int) : List Bg × Int × Int :=
 match l with
 | [] => ([], 0, 2)
 | x :: l => if x.f1 = c then (l, x.f0, 0) else if (takeR l c).2.2 = 0 then (x :: (takeR l c).1, (takeR l c).2) else ([], 0, 2)
theorem takeR_none {l : List Bg} {c : Int} (h : ∀ x ∈ l, ¬ x.f1 = c) : takeR l c = ([], 0, 2) := by
 induction l with
 | nil => rfl
 | cons x l ih =>
  have := ih (fun y hy => h y (List.mem_cons_of_mem _ hy))
  unfold takeR
  rw [if_neg (h x List.mem_cons_self), this]
  rfl
theorem takeR_some {l : List Bg} {c : Int} (j : Nat) (hj : j < l.length) (h : l[j].f1 = c) (hb : ∀ i (hi : i < j), ¬ (l[i]'(Nat.lt_trans hi hj)).f1 = c) : takeR l c = (l.take j ++ l.drop (j + 1), l[j].f0, 0) := by
 induction l generalizing j with
 | nil => simp at hj
 | cons x l ih =>
  cases j with
  | zero =>
   unfold takeR
   rw [if_pos (by simpa using h)]
   simp
  | succ j =>
   have := ih j (by simpa using hj) (by simpa using h) (fun i hi => by simpa using hb (i + 1) (by omega))
   unfold takeR
   rw [if_neg (by simpa using hb 0 (by omega)), this]
   simp
theorem take_is (l : List Bg) (hl : l.length ≤ 1000) (c : Int) : large_Take.f l c = some (takeR l c) := by
 unfold large_Take.f api_Big_47_48.f
 rw [if_pos (by omega), Option.bind_some]
 by_cases d : idxB (fun x : Bg => decide (x.f1 = c)) l 0 < 0
 ·rw [if_pos d, takeR_none]
  intro x hx
  simpa using idxB_none _ l 0 (by omega) d x hx
 ·rw [if_neg d]
  obtain ⟨j, h1, hj, h2, h3⟩ := idxB_some (fun x : Bg => decide (x.f1 = c)) l 0 (by simpa using d)
  have h1' : idxB (fun x : Bg => decide (x.f1 = c)) l 0 = (j : Int) := by simpa using h1
  rw [h1']
  unfold api_Big_46.f api_Big_49.f del_big
  rw [if_pos (by omega), Option.bind_some, if_pos ⟨nn _, by omega, w64 (by omega) (by omega)⟩, Option.bind_some, if_pos (nn _), if_pos (by omega)]
  rw [takeR_some j hj (by simpa using h2) (fun i hi => by simpa using h3 i hi)]
  simp [rd_T29, hj]
theorem drop_is (l : List Bg) (hl : l.length ≤ 1000) : large_Drop.f l = some (match l with | [] => ([], 0, 0, false) | x :: m => (m, x.f0, x.f1, true)) := by
 unfold large_Drop.f
 cases l with
 | nil => rfl
 | cons x m =>
  unfold api_Big_46.f
  simp only [List.length_cons] at hl
  simp only [List.length_cons, List.drop_one, List.tail_cons]
  rw [if_neg (by omega), if_pos (by omega), if_pos (by omega), Option.bind_some, if_pos (by omega)]
  simp [rd_T29]
theorem awake_is : rickyardlaw11_awake.f = some true := by
 unfold rickyardlaw11_awake.f
 have h1 := put_is (l := []) trivial (by simp) ⟨0, 4⟩
 have h2 : putR [] (⟨0, 4⟩ : Bg) = ([⟨0, 4⟩], 0) := by decide
 rw [h2] at h1
 rw [show large_Put.f ([] : List Bg) 0 4 = some ([⟨0, 4⟩], 0) from h1, Option.bind_some, take_is _ (by simp)]
 decide
end Go.Proofs.Ytflhbakjlbmfbaa.Pure
