/- Models as lists of stacks: which lists are right, what is put, dropped, found. No program in it. No statement is proved here. -/
import Derived.Test.YtpddppipjlagfaaPrx7
import Derived.Test.YtpddppipjlagfaaPure
import Derived.Test.YtpddppipjlagfaaOpFunc
import Derived.Test.YtpddppipjlagfaaPrx14
namespace Go.Proofs.Ytpddppipjlagfaa.Pure
open Go.RowKit Go.Proofs.Ytpddppipjlagfaa.Pr Go.Proofs.YtpddppipjlagfaaW.PrintWords Go.Proofs.YtpddppipjlagfaaW.PrintLast Go.Proofs.YtpddppipjlagfaaW.PrintMore
set_option linter.unusedVariables false
set_option linter.unusedSimpArgs false
abbrev Lv := S59
instance : DecidableEq Lv := fun x y => decidable_of_iff (x.f0 = y.f0 ∧ x.f1 = y.f1 ∧ x.f2 = y.f2) (by cases x; cases y; simp)

theorem rdL_mid (pre : List Lv) (x : Lv) (suf : List Lv) : rd_T59 (pre ++ x :: suf) (pre.length : Int) = x := by
  simp [rd_T59]
theorem mid_lt {α : Type} (pre : List α) (x : α) (suf : List α) : (pre.length : Int) < ((pre ++ x :: suf).length : Int) := by
  simp; omega
theorem nn (n : Nat) : (0 : Int) ≤ (n : Int) := Int.natCast_nonneg n
theorem nxt {α : Type} (pre : List α) (x : α) (h : pre.length < 9223372036854775807) : wrap64 ((pre.length : Int) + 1) = ((pre ++ [x]).length : Int) := by
  rw [w64 (by omega) (by omega)]; simp
theorem end_nlt {α : Type} (pre : List α) : ¬ ((pre.length : Int) < ((pre ++ []).length : Int)) := by simp
theorem snoc {α : Type} (pre : List α) (x : α) (suf : List α) : pre ++ x :: suf = (pre ++ [x]) ++ suf := by simp

/-- How many words a class has. -/
def wd (c : Int) : Int := (sizeRow c).1
theorem wd_cases (c : Int) : (c = 0 ∧ wd c = 32) ∨ (c = 1 ∧ wd c = 64) ∨ (c = 2 ∧ wd c = 128) ∨ (c = 3 ∧ wd c = 256) ∨ (c = 4 ∧ wd c = 512) ∨ (c = 5 ∧ wd c = 1024) ∨ (c = 6 ∧ wd c = 2048) ∨ (c = 7 ∧ wd c = 4096) ∨ ((c < 0 ∨ 8 ≤ c) ∧ wd c = 0) := by
  unfold wd sizeRow
  repeat' split
  all_goals simp_all
  all_goals omega
theorem wd_range (c : Int) : 0 ≤ wd c ∧ wd c ≤ 4096 := by
  have := wd_cases c
  omega
theorem words_is (c : Int) : rickyardref1_Words.f c = some (wd c) := by
  unfold rickyardref1_Words.f
  rcases wd_cases c with ⟨rfl, h⟩ | ⟨rfl, h⟩ | ⟨rfl, h⟩ | ⟨rfl, h⟩ | ⟨rfl, h⟩ | ⟨rfl, h⟩ | ⟨rfl, h⟩ | ⟨rfl, h⟩ | ⟨hc, h⟩
  · rw [h]; rfl
  · rw [h]; rfl
  · rw [h]; rfl
  · rw [h]; rfl
  · rw [h]; rfl
  · rw [h]; rfl
  · rw [h]; rfl
  · rw [h]; rfl
  · rw [h]
    by_cases c0 : c < 0
    · rw [if_pos c0]
    · rw [if_neg c0, if_pos (by omega)]
theorem swords_is (c : Int) : size_Words.f c = some (wd c) := rfl
theorem over_is (a n b m : Int) : rickyardref1_Over.f a n b m = some (overS a n b m) := by
  unfold rickyardref1_Over.f overS
  by_cases c1 : a < 0
  · rw [if_pos c1, decide_eq_false (by omega)]
  · rw [if_neg c1]
    by_cases c2 : a > 2305843009213693952
    · rw [if_pos c2, decide_eq_false (by omega)]
    · rw [if_neg c2]
      by_cases c3 : b < 0
      · rw [if_pos c3, decide_eq_false (by omega)]
      · rw [if_neg c3]
        by_cases c4 : b > 2305843009213693952
        · rw [if_pos c4, decide_eq_false (by omega)]
        · rw [if_neg c4]
          by_cases c5 : n < 1
          · rw [if_pos c5, decide_eq_false (by omega)]
          · rw [if_neg c5]
            by_cases c6 : n > 2305843009213693952
            · rw [if_pos c6, decide_eq_false (by omega)]
            · rw [if_neg c6]
              by_cases c7 : m < 1
              · rw [if_pos c7, decide_eq_false (by omega)]
              · rw [if_neg c7]
                by_cases c8 : m > 2305843009213693952
                · rw [if_pos c8, decide_eq_false (by omega)]
                · rw [if_neg c8, w64 (n := b + m) (by omega) (by omega), w64 (n := a + n) (by omega) (by omega)]
                  by_cases c9 : a < b + m
                  · rw [if_pos c9]
                    congr 1
                    exact decide_eq_decide.2 (by omega)
                  · rw [if_neg c9, decide_eq_false (by omega)]
theorem lover_is (b x : Lv) : model_over.f b.f0 b.f1 b.f2 x.f0 x.f1 x.f2 = some (liveOver b x) := rfl
theorem overS_symm (a n b m : Int) : overS a n b m = overS b m a n := by
  unfold overS
  exact decide_eq_decide.2 (by constructor <;> (rintro ⟨h1, h2, h3, h4, h5, h6⟩; exact ⟨h2, h1, h4, h3, h6, h5⟩))
theorem lov_symm (b x : Lv) : liveOver b x = liveOver x b := overS_symm _ _ _ _

/-- A stack lies within so many words. -/
def lieP (m : Int) (x : Lv) : Prop := 0 < wd x.f1 ∧ 0 ≤ x.f0 ∧ x.f0 % 32 = 0 ∧ x.f0 + wd x.f1 ≤ m
instance (m : Int) (x : Lv) : Decidable (lieP m x) := by unfold lieP; infer_instance
/-- So many words may be. -/
def mOk (m : Int) : Prop := 0 ≤ m ∧ m ≤ 16384
instance (m : Int) : Decidable (mOk m) := by unfold mOk; infer_instance
theorem lies_is {m : Int} (hm : mOk m) (x : Lv) : model_lies.f x.f0 x.f1 x.f2 m = some (decide (lieP m x)) := by
  have e : lieP m x ↔ (0 < wd x.f1 ∧ 0 ≤ x.f0 ∧ x.f0 % 32 = 0 ∧ x.f0 + wd x.f1 ≤ m) := Iff.rfl
  have hw := wd_range x.f1
  unfold mOk at hm
  unfold model_lies.f
  rw [swords_is, Option.bind_some]
  by_cases c1 : wd x.f1 > 0
  · rw [if_pos c1]
    by_cases c2 : x.f0 ≥ 0
    · rw [if_pos c2, tmod_emod (by omega)]
      by_cases c3 : x.f0 % 32 = 0
      · rw [if_pos c3]
        by_cases c4 : wd x.f1 ≤ m
        · rw [if_pos c4, w64 (by omega) (by omega)]
          congr 1
          exact decide_eq_decide.2 (by rw [e]; omega)
        · rw [if_neg c4, decide_eq_false (by rw [e]; omega)]
      · rw [if_neg c3, decide_eq_false (by rw [e]; omega)]
    · rw [if_neg c2, decide_eq_false (by rw [e]; omega)]
  · rw [if_neg c1, decide_eq_false (by rw [e]; omega)]
theorem lov_is {m : Int} (hm : mOk m) {x b : Lv} (hx : lieP m x) (hb : lieP m b) : liveOver b x = true ↔ (x.f0 < b.f0 + wd b.f1 ∧ b.f0 < x.f0 + wd x.f1) := by
  unfold liveOver overS
  obtain ⟨a1, a2, a3, a4⟩ := hx
  obtain ⟨b1, b2, b3, b4⟩ := hb
  have w1 := wd_range x.f1
  have w2 := wd_range b.f1
  unfold mOk at hm
  have e1 : (sizeRow x.f1).1 = wd x.f1 := rfl
  have e2 : (sizeRow b.f1).1 = wd b.f1 := rfl
  rw [decide_eq_true_eq, e1, e2]
  omega

/-- A list is right. -/
def rtL (m : Int) : List Lv → Prop
  | [] => True
  | x :: l => (lieP m x ∧ -1 ≤ x.f2) ∧ (∀ y ∈ l, x.f0 + wd x.f1 ≤ y.f0) ∧ rtL m l
theorem rtL_lie {m : Int} {l : List Lv} (h : rtL m l) {x : Lv} (hx : x ∈ l) : lieP m x ∧ -1 ≤ x.f2 := by
  induction l with
  | nil => cases hx
  | cons y l ih =>
    rcases List.mem_cons.1 hx with rfl | hx
    · exact h.1
    · exact ih h.2.2 hx
theorem rtL_mid {m : Int} {pre suf : List Lv} {x : Lv} (h : rtL m (pre ++ x :: suf)) : ∀ y ∈ pre, y.f0 + wd y.f1 ≤ x.f0 := by
  induction pre with
  | nil => simp
  | cons z pre ih =>
    intro y hy
    rcases List.mem_cons.1 hy with rfl | hy
    · exact h.2.1 x (by simp)
    · exact ih h.2.2 y hy
theorem rtL_suf {m : Int} {pre suf : List Lv} (h : rtL m (pre ++ suf)) : rtL m suf := by
  induction pre with
  | nil => exact h
  | cons z pre ih => exact ih h.2.2
theorem rtL_snoc {m : Int} {pre : List Lv} {x : Lv} (h : rtL m pre) (hx : lieP m x ∧ -1 ≤ x.f2) (hp : ∀ y ∈ pre, y.f0 + wd y.f1 ≤ x.f0) : rtL m (pre ++ [x]) := by
  induction pre with
  | nil => exact ⟨hx, by simp, trivial⟩
  | cons z pre ih =>
    refine ⟨h.1, fun y hy => ?_, ih h.2.2 (fun y hy => hp y (List.mem_cons_of_mem _ hy))⟩
    rcases List.mem_append.1 hy with hy | hy
    · exact h.2.1 y hy
    · rcases List.mem_singleton.1 hy with rfl
      exact hp z List.mem_cons_self

/-- What is put. -/
def insL (b : Lv) : List Lv → List Lv
  | [] => [b]
  | x :: l => if x.f0 < b.f0 then x :: insL b l else b :: x :: l
/-- How many stand ahead of an address. -/
def cntL (t : Int) : List Lv → Nat
  | [] => 0
  | x :: l => if x.f0 < t then cntL t l + 1 else 0
theorem cntL_le (t : Int) (l : List Lv) : cntL t l ≤ l.length := by
  induction l with
  | nil => exact Nat.le_refl _
  | cons x l ih => unfold cntL; split <;> simp <;> omega
theorem insL_cnt (b : Lv) (l : List Lv) : insL b l = l.take (cntL b.f0 l) ++ [b] ++ l.drop (cntL b.f0 l) := by
  induction l with
  | nil => rfl
  | cons x l ih =>
    unfold insL cntL
    split
    · rw [ih]; simp
    · simp
theorem insL_len (b : Lv) (l : List Lv) : (insL b l).length = l.length + 1 := by
  induction l with
  | nil => rfl
  | cons x l ih => unfold insL; split <;> simp [ih]
theorem mem_insL {b x : Lv} {l : List Lv} : x ∈ insL b l ↔ x = b ∨ x ∈ l := by
  induction l with
  | nil => simp [insL]
  | cons y l ih =>
    unfold insL
    split
    · simp only [List.mem_cons, ih]; grind
    · simp only [List.mem_cons]
theorem lov_false {m : Int} (hm : mOk m) {x b : Lv} (hx : lieP m x) (hb : lieP m b) (h : liveOver b x = false) : x.f0 + wd x.f1 ≤ b.f0 ∨ b.f0 + wd b.f1 ≤ x.f0 := by
  have := lov_is hm hx hb
  by_cases c : x.f0 < b.f0 + wd b.f1 ∧ b.f0 < x.f0 + wd x.f1
  · rw [this.2 c] at h; cases h
  · omega
theorem insL_rt {m : Int} (hm : mOk m) {b : Lv} (hb : lieP m b ∧ -1 ≤ b.f2) {l : List Lv} (h : rtL m l) (ho : ∀ x ∈ l, liveOver b x = false) : rtL m (insL b l) := by
  induction l with
  | nil => exact ⟨hb, by simp, trivial⟩
  | cons x l ih =>
    obtain ⟨h1, h2, h3⟩ := h
    have hox := lov_false hm h1.1 hb.1 (ho x List.mem_cons_self)
    have w1 := h1.1.1
    have w2 := hb.1.1
    unfold insL
    split
    next c =>
      refine ⟨h1, fun y hy => ?_, ih h3 (fun y hy => ho y (List.mem_cons_of_mem _ hy))⟩
      rcases mem_insL.1 hy with rfl | hy
      · omega
      · exact h2 y hy
    next c =>
      refine ⟨hb, fun y hy => ?_, h1, h2, h3⟩
      rcases List.mem_cons.1 hy with rfl | hy
      · omega
      · have := h2 y hy; omega
/-- Binary search in a list whose first n are below and whose others are not. -/
theorem bsI_is {α : Type} (cf : α → Int) (l : List α) (n : Nat) (hn : n ≤ l.length) (h1 : ∀ i (h : i < l.length), i < n → cf l[i] < 0) (h2 : ∀ i (h : i < l.length), n ≤ i → ¬ cf l[i] < 0) (i j : Nat) (hi : i ≤ n) (hj : n ≤ j) (hjl : j ≤ l.length) : bsI cf l i j = n := by
  induction i, j using bsI.induct (cf := cf) (l := l) with
  | case1 i j h c ih =>
    rw [bsI, dif_pos h, if_pos c]
    have hm : (i + j) / 2 < l.length := by omega
    rw [List.getElem?_eq_getElem hm] at c
    refine ih ?_ hj hjl
    by_cases d : n ≤ (i + j) / 2
    · exact absurd c (h2 _ hm d)
    · omega
  | case2 i j h c ih =>
    rw [bsI, dif_pos h, if_neg c]
    have hm : (i + j) / 2 < l.length := by omega
    rw [List.getElem?_eq_getElem hm] at c
    refine ih hi ?_ (by omega)
    by_cases d : (i + j) / 2 < n
    · exact absurd (h1 _ hm d) c
    · omega
  | case3 i j h => rw [bsI, dif_neg h]; omega
theorem liveAt_neg (t : Int) (x : Lv) : liveAt t x < 0 ↔ x.f0 < t := by
  unfold liveAt
  repeat' split
  all_goals omega
theorem liveAt_zero (t : Int) (x : Lv) : liveAt t x = 0 ↔ x.f0 = t := by
  unfold liveAt
  repeat' split
  all_goals omega
theorem cntL_below {t : Int} {l : List Lv} : ∀ i (h : i < l.length), i < cntL t l → l[i].f0 < t := by
  induction l with
  | nil => intro i h; simp at h
  | cons x l ih =>
    intro i h hc
    unfold cntL at hc
    split at hc
    next d =>
      cases i with
      | zero => simpa using d
      | succ i => simpa using ih i (by simpa using h) (by omega)
    next d => omega
theorem cntL_above {m t : Int} {l : List Lv} (hr : rtL m l) : ∀ i (h : i < l.length), cntL t l ≤ i → ¬ l[i].f0 < t := by
  induction l with
  | nil => intro i h; simp at h
  | cons x l ih =>
    intro i h hc
    unfold cntL at hc
    split at hc
    next d =>
      cases i with
      | zero => omega
      | succ i => simpa using ih hr.2.2 i (by simpa using h) (by omega)
    next d =>
      cases i with
      | zero => simpa using d
      | succ i =>
        intro e
        have hi : i < l.length := by simpa using h
        have := hr.2.1 l[i] (List.getElem_mem hi)
        have w := hr.1.1.1
        have e' : l[i].f0 < t := by simpa using e
        omega
theorem bs_cntL {m t : Int} {l : List Lv} (hr : rtL m l) : bsI (liveAt t) l 0 l.length = cntL t l := by
  refine bsI_is _ l _ (cntL_le t l) ?_ ?_ 0 l.length (Nat.zero_le _) (cntL_le t l) (Nat.le_refl _)
  · intro i h hc; exact (liveAt_neg t l[i]).2 (cntL_below i h hc)
  · intro i h hc e; exact cntL_above hr i h hc ((liveAt_neg t l[i]).1 e)
/-- The stack of an address. -/
def findL (t : Int) : List Lv → Option Lv
  | [] => none
  | x :: l => if x.f0 = t then some x else findL t l
/-- The list without it. -/
def delL (t : Int) : List Lv → List Lv
  | [] => []
  | x :: l => if x.f0 = t then l else x :: delL t l
theorem delL_len (t : Int) (l : List Lv) : (delL t l).length ≤ l.length := by
  induction l with
  | nil => exact Nat.le_refl _
  | cons x l ih => unfold delL; split <;> simp <;> omega
theorem findL_cnt {m t : Int} {l : List Lv} (hr : rtL m l) : (match l[cntL t l]? with | some x => if x.f0 = t then some x else none | none => none) = findL t l := by
  induction l with
  | nil => rfl
  | cons x l ih =>
    unfold cntL findL
    by_cases c : x.f0 < t
    · rw [if_pos c, if_neg (by omega), ← ih hr.2.2]
      simp
    · rw [if_neg c]
      by_cases d : x.f0 = t
      · simp [d]
      · rw [if_neg d]
        have : findL t l = none := by
          have hn : ∀ y ∈ l, ¬ y.f0 = t := by
            intro y hy e
            have := hr.2.1 y hy
            have := hr.1.1.1
            omega
          clear ih
          induction l with
          | nil => rfl
          | cons y l ih2 =>
            unfold findL
            rw [if_neg (hn y List.mem_cons_self)]
            exact ih2 ⟨hr.1, fun z hz => hr.2.1 z (List.mem_cons_of_mem _ hz), hr.2.2.2.2⟩ (fun z hz => hn z (List.mem_cons_of_mem _ hz))
        rw [this]
        simp [d]
theorem delL_cnt {m t : Int} {l : List Lv} (hr : rtL m l) {x : Lv} (h : findL t l = some x) : delL t l = l.take (cntL t l) ++ l.drop (cntL t l + 1) ∧ l[cntL t l]? = some x := by
  induction l with
  | nil => cases h
  | cons y l ih =>
    unfold findL at h
    unfold delL cntL
    by_cases d : y.f0 = t
    · rw [if_pos d] at h
      rw [if_pos d, if_neg (by omega)]
      simpa using h
    · rw [if_neg d] at h
      by_cases c : y.f0 < t
      · obtain ⟨h1, h2⟩ := ih hr.2.2 h
        rw [if_neg d, if_pos c, h1]
        simpa using h2
      · exfalso
        have : ∀ z ∈ l, ¬ z.f0 = t := by
          intro z hz e
          have := hr.2.1 z hz
          have := hr.1.1.1
          omega
        clear ih hr
        induction l with
        | nil => cases h
        | cons z l ih2 =>
          unfold findL at h
          rw [if_neg (this z List.mem_cons_self)] at h
          exact ih2 h (fun z hz => this z (List.mem_cons_of_mem _ hz))
theorem mem_delL {t : Int} {l : List Lv} {x : Lv} (h : x ∈ delL t l) : x ∈ l := by
  induction l with
  | nil => cases h
  | cons y l ih =>
    unfold delL at h
    split at h
    · exact List.mem_cons_of_mem _ h
    · rcases List.mem_cons.1 h with rfl | h
      · exact List.mem_cons_self
      · exact List.mem_cons_of_mem _ (ih h)
theorem delL_rt {m t : Int} {l : List Lv} (h : rtL m l) : rtL m (delL t l) := by
  induction l with
  | nil => exact h
  | cons x l ih =>
    unfold delL
    split
    · exact h.2.2
    · exact ⟨h.1, fun y hy => h.2.1 y (mem_delL hy), ih h.2.2⟩
theorem findL_mem {t : Int} {l : List Lv} {x : Lv} (h : findL t l = some x) : x ∈ l ∧ x.f0 = t := by
  induction l with
  | nil => cases h
  | cons y l ih =>
    unfold findL at h
    split at h
    next d => cases h; exact ⟨List.mem_cons_self, d⟩
    next d => exact ⟨List.mem_cons_of_mem _ (ih h).1, (ih h).2⟩

/-- The least class that has so many words. -/
def cls (n : Int) : Int := if n ≤ 32 then 0 else if n ≤ 64 then 1 else if n ≤ 128 then 2 else if n ≤ 256 then 3 else if n ≤ 512 then 4 else if n ≤ 1024 then 5 else if n ≤ 2048 then 6 else 7
def nOk (n : Int) : Prop := 1 ≤ n ∧ n ≤ 4096
instance (n : Int) : Decidable (nOk n) := by unfold nOk; infer_instance
def clsR (n : Int) : Int × Bool := if nOk n then (cls n, true) else (0, false)
/-- What is allocated; the list behind it. -/
def allocL (m : Int) (l : List Lv) (n a : Int) : Option (List Lv) := if nOk n ∧ lieP m ⟨a, cls n, -1⟩ ∧ l.any (liveOver ⟨a, cls n, -1⟩) = false then some (insL ⟨a, cls n, -1⟩ l) else none
def allocR (m : Int) (l : List Lv) (n a : Int) : Int × List Lv × Bool := match allocL m l n a with | some q => (m, q, true) | none => (0, [], false)
def freeR (m : Int) (l : List Lv) (a : Int) : Int × List Lv × Int := match findL a l with | some _ => (m, delL a l, 0) | none => (0, [], 2)
def findR (l : List Lv) (a : Int) : Int × Int × Int × Bool := match findL a l with | some x => (x.f0, x.f1, x.f2, true) | none => (0, 0, 0, false)
theorem allocL_rt {m : Int} (hm : mOk m) {l q : List Lv} (h : rtL m l) {n a : Int} (e : allocL m l n a = some q) : rtL m q ∧ q.length = l.length + 1 := by
  unfold allocL at e
  split at e
  next c =>
    cases e
    obtain ⟨_, h2, h3⟩ := c
    exact ⟨insL_rt hm ⟨h2, Int.le_refl _⟩ h (fun x hx => by simpa using (List.any_eq_false.1 h3) x hx), insL_len _ _⟩
  next => cases e
end Go.Proofs.Ytpddppipjlagfaa.Pure
