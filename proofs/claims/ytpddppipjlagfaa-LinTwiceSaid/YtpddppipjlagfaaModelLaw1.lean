/- Several texts in one: ModelLaw1, ModelRight, ModelCalls, ModelAcc, ModelRef1, Prx21. -/
import Derived.Test.YtpddppipjlagfaaRefModel
import Derived.Test.YtpddppipjlagfaaPrx10
import Derived.Test.YtpddppipjlagfaaPrx12
import Derived.Test.YtpddppipjlagfaaPrx7
import Derived.Test.YtpddppipjlagfaaRefAlloc
import Derived.Test.YtpddppipjlagfaaLinDfs
import Derived.Test.YtpddppipjlagfaaPrx20
import Derived.Test.YtpddppipjlagfaaPrx14
import Derived.Test.YtpddppipjlagfaaPrx0
import Derived.Test.YtpddppipjlagfaaOpFunc
/- What the printed functions on models answer. No statement is proved here. -/
namespace Go.Proofs.Ytpddppipjlagfaa.Pure
open Go.RowKit Go.Proofs.Ytpddppipjlagfaa.Pr Go.Proofs.YtpddppipjlagfaaW.PrintWords Go.Proofs.YtpddppipjlagfaaW.PrintLast Go.Proofs.YtpddppipjlagfaaW.PrintMore
set_option linter.unusedVariables false
set_option linter.unusedSimpArgs false

/-! ### Places -/
theorem place_is {m : Int} {l : List Lv} (hr : rtL m l) (hl : l.length ≤ 1000) (a : Int) : model_place.f l a = some ((cntL a l : Int), (findL a l).isSome) := by
  unfold model_place.f
  rw [if_pos (by omega), bs_cntL hr]
  have : bsB (liveAt a) l = (findL a l).isSome := by
    unfold bsB
    rw [bs_cntL hr, ← findL_cnt hr]
    cases l[cntL a l]? with
    | none => rfl
    | some x =>
      dsimp only
      by_cases c : x.f0 = a
      · rw [if_pos c, decide_eq_true ((liveAt_zero a x).2 c)]; rfl
      · rw [if_neg c, decide_eq_false (fun h => c ((liveAt_zero a x).1 h))]; rfl
  rw [this]
theorem alloc_ev {m : Int} (hm : mOk m) {l : List Lv} (hr : rtL m l) (hl : l.length ≤ 1000) (n a : Int) : Ev (fun k => model_Alloc.f k m l n a) (allocR m l n a) := by
  obtain ⟨K, hK⟩ := (class_ev n).1
  refine ⟨K + 1, fun k hk => ?_⟩
  obtain ⟨k, rfl⟩ : ∃ j, k = j + 1 := ⟨k - 1, by omega⟩
  have h := hK (k + 1) (by omega)
  dsimp only at h ⊢
  rw [model_Alloc.f, h, Option.bind_some]
  unfold allocR allocL clsR
  by_cases c1 : nOk n
  · have e1 := lies_is hm ⟨a, cls n, -1⟩
    dsimp only at e1
    rw [if_pos c1]
    dsimp only
    rw [if_pos rfl, e1, Option.bind_some]
    by_cases c2 : lieP m ⟨a, cls n, -1⟩
    · rw [decide_eq_true c2, if_pos rfl]
      unfold api_Live_56_57.f
      rw [if_pos (by omega), Option.bind_some]
      by_cases c3 : l.any (liveOver ⟨a, cls n, -1⟩) = true
      · rw [c3, model_Alloc.j0, if_pos rfl, if_neg (by simp)]
      · have c3' : l.any (liveOver ⟨a, cls n, -1⟩) = false := by simpa using c3
        have := cntL_le a l
        rw [c3', model_Alloc.j0, if_neg (by simp), place_is hr hl, Option.bind_some]
        unfold api_Live_29.f
        rw [if_pos (by omega), Option.bind_some]
        unfold api_Live_59.f ins_live
        rw [if_pos ⟨rfl, nn _, by dsimp only; omega, by omega⟩, Option.bind_some, if_pos ⟨c1, c2, rfl⟩, insL_cnt]
        rfl
    · rw [decide_eq_false c2, if_neg (by simp), model_Alloc.j0, if_pos rfl, if_neg (fun h => c2 h.2.1)]
  · rw [if_neg c1]
    dsimp only
    rw [if_neg (by simp), model_Alloc.j0, if_pos rfl, if_neg (fun h => c1 h.1)]
theorem free_is {m : Int} {l : List Lv} (hr : rtL m l) (hl : l.length ≤ 1000) (a : Int) : model_Free.f m l a = some (freeR m l a) := by
  unfold model_Free.f freeR
  rw [place_is hr hl, Option.bind_some]
  cases e : findL a l with
  | none => rfl
  | some x =>
    obtain ⟨h1, h2⟩ := delL_cnt hr e
    have h3 : cntL a l < l.length := (List.getElem?_eq_some_iff.1 h2).1
    dsimp only [Option.isSome]
    rw [if_pos rfl]
    unfold api_Live_29.f
    rw [if_pos (by omega), Option.bind_some]
    unfold api_Live_60.f del_live
    rw [if_pos ⟨nn _, by omega, w64 (by omega) (by omega)⟩, Option.bind_some, h1]
    rfl
theorem rdL_get (l : List Lv) (i : Nat) (x : Lv) (h : l[i]? = some x) : rd_T59 l (i : Int) = x := by
  simp [rd_T59, List.getD_eq_getElem?_getD, h]
theorem find_is {m : Int} {l : List Lv} (hr : rtL m l) (hl : l.length ≤ 1000) (a : Int) : model_Find.f m l a = some (findR l a) := by
  unfold model_Find.f findR
  rw [place_is hr hl, Option.bind_some]
  cases e : findL a l with
  | none => rfl
  | some x =>
    obtain ⟨h1, h2⟩ := delL_cnt hr e
    have h3 : cntL a l < l.length := (List.getElem?_eq_some_iff.1 h2).1
    dsimp only [Option.isSome]
    rw [if_pos rfl, if_pos (nn _), if_pos (by omega), rdL_get _ _ _ h2]

end Go.Proofs.Ytpddppipjlagfaa.Pure
/- The document's Alloc is the model's. No statement is proved here. -/
namespace Go.Proofs.Ytpddppipjlagfaa.Pure
open Go.RowKit Go.Proofs.Ytpddppipjlagfaa.Pr Go.Proofs.YtpddppipjlagfaaW.PrintWords Go.Proofs.YtpddppipjlagfaaW.PrintLast Go.Proofs.YtpddppipjlagfaaW.PrintMore
set_option linter.unusedVariables false
set_option linter.unusedSimpArgs false
theorem lastL_zero {t : Int} (l : List Lv) (h : ∀ x ∈ l, ¬ x.f0 < t) : ∀ i q, lastL t l i q = q := by
  induction l with
  | nil => intro i q; rfl
  | cons x l ih =>
    intro i q
    rw [lastL, if_neg (h x List.mem_cons_self)]
    exact ih (fun y hy => h y (List.mem_cons_of_mem _ hy)) _ _
theorem lastL_cnt {m t : Int} {l : List Lv} (hr : rtL m l) : ∀ i q, lastL t l i q = if cntL t l = 0 then q else i + cntL t l := by
  induction l with
  | nil => intro i q; rfl
  | cons x l ih =>
    intro i q
    rw [lastL]
    unfold cntL
    by_cases c : x.f0 < t
    · rw [if_pos c, if_pos c, ih hr.2.2, if_neg (show ¬ cntL t l + 1 = 0 by omega)]
      split <;> omega
    · rw [if_neg c, if_neg c, if_pos rfl]
      refine lastL_zero l (fun y hy => ?_) _ _
      have := hr.2.1 y hy
      have := hr.1.1.1
      omega
theorem argBad_is {m : Int} (hm : mOk m) (n a : Int) : argBad m n a = !decide (nOk n ∧ lieP m ⟨a, cls n, -1⟩) := by
  have e : lieP m ⟨a, cls n, -1⟩ ↔ (0 < wd (cls n) ∧ 0 ≤ a ∧ a % 32 = 0 ∧ a + wd (cls n) ≤ m) := Iff.rfl
  have hw := wd_range (cls n)
  have hc := cls_range n
  have hw2 := wd_cases (cls n)
  unfold mOk at hm
  unfold argBad
  by_cases c1 : nOk n
  · rw [decide_eq_true c1]
    by_cases c2 : a < 0
    · rw [decide_eq_true c2, decide_eq_false (show ¬ (nOk n ∧ lieP m ⟨a, cls n, -1⟩) by rw [e]; omega)]; simp
    · rw [decide_eq_false c2, tmod_emod (by omega)]
      by_cases c3 : a % 32 = 0
      · rw [decide_eq_false (show ¬ a % 32 ≠ 0 by omega)]
        by_cases c4 : a > m
        · rw [decide_eq_true c4, decide_eq_false (show ¬ (nOk n ∧ lieP m ⟨a, cls n, -1⟩) by rw [e]; omega)]; simp
        · rw [decide_eq_false c4, w64 (by omega) (by omega)]
          rw [Bool.eq_iff_iff]
          simp [c1, e]
          omega
      · rw [decide_eq_true (show a % 32 ≠ 0 by omega), decide_eq_false (show ¬ (nOk n ∧ lieP m ⟨a, cls n, -1⟩) by rw [e]; omega)]; simp
  · rw [decide_eq_false c1, decide_eq_false (show ¬ (nOk n ∧ lieP m ⟨a, cls n, -1⟩) from fun h => c1 h.1)]; simp
theorem ralloc_is {m : Int} (hm : mOk m) {l : List Lv} (hr : rtL m l) (n a : Int) : rallocG m l n a = allocR m l n a := by
  unfold rallocG allocR allocL
  rw [argBad_is hm]
  have hq : lastL a l 0 0 = cntL a l := by
    rw [lastL_cnt hr]
    split <;> omega
  by_cases c : nOk n ∧ lieP m ⟨a, cls n, -1⟩
  · rw [decide_eq_true c]
    by_cases d : l.any (liveOver ⟨a, cls n, -1⟩) = true
    · rw [if_pos (Or.inr d), if_neg (by rw [d]; simp)]
    · have d' : l.any (liveOver ⟨a, cls n, -1⟩) = false := by simpa using d
      rw [if_neg (by rw [d']; simp), if_pos ⟨c.1, c.2, d'⟩, hq, insL_cnt]
  · rw [decide_eq_false c, if_pos (Or.inl (by simp)), if_neg (fun h => c ⟨h.1, h.2.1⟩)]
/-! ### Which models may be -/
theorem allocR_rt {m : Int} (hm : mOk m) {q : List Lv} (h : rtL m q) (n a : Int) : (allocR m q n a).2.2 = true → (allocR m q n a).1 = m ∧ rtL m (allocR m q n a).2.1 ∧ (allocR m q n a).2.1.length ≤ q.length + 1 := by
  intro hz
  unfold allocR at hz ⊢
  cases e : allocL m q n a with
  | none => rw [e] at hz; cases hz
  | some x => obtain ⟨h1, h2⟩ := allocL_rt hm h e; exact ⟨rfl, h1, by dsimp only; omega⟩
end Go.Proofs.Ytpddppipjlagfaa.Pure

/- The functions on models: contracts that read, in one form. No statement is proved here. -/
namespace Go.Proofs.Ytpddppipjlagfaa
set_option linter.unusedVariables false
set_option linter.unusedSimpArgs false
open Go.RowKit Go.Proofs.YtpddppipjlagfaaW.PrintWords Go.Proofs.YtpddppipjlagfaaW.PrintLast Go.Proofs.YtpddppipjlagfaaW.PrintMore Pr Go.Proofs.Ytpddppipjlagfaa.Pure

/-- A value is a row that reads so. -/
def Rd (W : World) (v : Value) (l : List Lv) : Prop := ∃ A c, v = .slice A l.length c ∧ l.length ≤ c ∧ Kd.C k59 W A l.length l
theorem Rd.below {W W' : World} {v : Value} {l : List Lv} (h : Rd W v l) (hb : Below W.heap.size W W') : Rd W' v l := by
  obtain ⟨A, c, h1, h2, h3⟩ := h
  exact ⟨A, c, h1, h2, Kd.C_below h3 hb⟩
theorem Rd.ofR {W : World} {base : Nat} {ok : Nat → Prop} {v : Value} {l : List Lv} (h : Kd.R k59 59 W base ok v l) : Rd W v l := by
  obtain ⟨A, c, e⟩ := Kd.R_slice h
  subst e
  exact ⟨A, c, rfl, (Kd.R_reads' h).2.1, (Kd.R_reads' h).2.2⟩
theorem Rd.ofF {W : World} {ok : Nat → Prop} {A : Option Addr} {c : Nat} {l : List Lv} (hc : l.length ≤ c) (h : Kd.F k59 W ok A l.length l) : Rd W (.slice A l.length c) l := ⟨A, c, rfl, hc, Kd.F_now h⟩
theorem Rd.nil (W : World) : Rd W (.slice none 0 0) [] := ⟨none, 0, rfl, Nat.le_refl _, Kd.C_nil _ _⟩
set_option maxHeartbeats 1000000 in
theorem new_any (m : Int) (w : World) : Calls Try.prog 17 #[.int .i64 m] w fun e w' => e = .returned (.agg #[.int .i64 m, .slice none 0 0]) ∧ Below w.heap.size w w' := by
  have hu2 := Try.underlying43
  go_enter Try.func17, Try.ntmps17
  go_wp2
  refine bodyPost_ret (v := .agg #[.int .i64 m, .slice none 0 0]) (by simp [results, Try.results17, go_sem]) rfl ?_
  exact ⟨rfl, below_alloc (Below.refl _ _) _⟩
section
variable {m : Int} {v : Value} {l : List Lv} {w : World}
theorem alloc_any (hm : mOk m) (hr : rtL m l) (hl : l.length ≤ 1000) (h : Rd w v l) (n a : Int) :
    Calls Try.prog 44 #[.agg #[.int .i64 m, v], .int .i64 n, .int .i64 a] w fun e w' => ∃ u, e = .returned (.tuple #[.agg #[.int .i64 (allocR m l n a).1, u], .bool (allocR m l n a).2.2]) ∧ Rd w' u (allocR m l n a).2.1 ∧ Below w.heap.size w w' := by
  obtain ⟨A, c, rfl, h2, h3⟩ := h
  obtain ⟨k, hk⟩ := (alloc_ev hm hr hl n a).rounds
  exact (model_Alloc.calls k m A c l n a _ _ _ w h3 h2 hk).mono (fun e w' ⟨u, h4, h5, h6⟩ => ⟨u, h4, Rd.ofR h5, h6⟩)
theorem ralloc_anyR (hm : mOk m) (hr : rtL m l) (hl : l.length ≤ 1000) (h : Rd w v l) (n a : Int) :
    Calls Try.prog 39 #[.agg #[.int .i64 m, v], .int .i64 n, .int .i64 a] w fun e w' => ∃ u, e = .returned (.tuple #[.agg #[.int .i64 (allocR m l n a).1, u], .bool (allocR m l n a).2.2]) ∧ Rd w' u (allocR m l n a).2.1 ∧ Below w.heap.size w w' := by
  obtain ⟨A, c, rfl, h2, h3⟩ := h
  exact (rickyardref13_Alloc.calls m A c l n a _ _ _ w h3 h2 (by unfold rickyardref13_Alloc.f; rw [if_pos hl, ralloc_is hm hr])).mono (fun e w' ⟨u, h4, h5, h6⟩ => ⟨u, h4, Rd.ofR h5, h6⟩)
theorem free_any (hr : rtL m l) (hl : l.length ≤ 1000) (h : Rd w v l) (a : Int) :
    Calls Try.prog 45 #[.agg #[.int .i64 m, v], .int .i64 a] w fun e w' => ∃ u, e = .returned (.tuple #[.agg #[.int .i64 (freeR m l a).1, u], .int .i64 (freeR m l a).2.2]) ∧ Rd w' u (freeR m l a).2.1 ∧ Below w.heap.size w w' := by
  obtain ⟨A, c, rfl, h2, h3⟩ := h
  exact (model_Free.calls m A c l a _ _ _ w h3 h2 (free_is hr hl a)).mono (fun e w' ⟨u, h4, h5, h6⟩ => ⟨u, h4, Rd.ofR h5, h6⟩)
theorem find_any (hr : rtL m l) (hl : l.length ≤ 1000) (h : Rd w v l) (a : Int) :
    Calls Try.prog 43 #[.agg #[.int .i64 m, v], .int .i64 a] w fun e w' => e = .returned (.tuple #[.agg #[.int .i64 (findR l a).1, .int .i64 (findR l a).2.1, .int .i64 (findR l a).2.2.1], .bool (findR l a).2.2.2]) ∧ Below w.heap.size w w' := by
  obtain ⟨A, c, rfl, h2, h3⟩ := h
  exact model_Find.calls m A c l a _ _ _ _ w h3 h2 (find_is hr hl a)
end
end Go.Proofs.Ytpddppipjlagfaa
/- How far deeds are accepted. No statement is proved here. -/
namespace Go.Proofs.Ytpddppipjlagfaa.Pure
open Go.RowKit Go.Proofs.Ytpddppipjlagfaa.Pr Go.Proofs.YtpddppipjlagfaaW.PrintWords Go.Proofs.YtpddppipjlagfaaW.PrintLast Go.Proofs.YtpddppipjlagfaaW.PrintMore
set_option linter.unusedVariables false
set_option linter.unusedSimpArgs false
abbrev De := S38
/-! ### Deeds -/
def accR (m : Int) (l : List Lv) (d : De) : Int × List Lv × Bool :=
  if d.f0 = 1 ∧ d.f3 = 0 then allocR m l d.f1 d.f2
  else if d.f0 = 1 ∧ d.f3 = 3 then (m, l, (clsR d.f1).2)
  else if d.f0 = 1 ∧ d.f3 = 1 then (m, l, !(clsR d.f1).2)
  else if d.f0 = 2 ∧ d.f3 = 0 then ((freeR m l d.f2).1, (freeR m l d.f2).2.1, (freeR m l d.f2).2.2 == 0)
  else if d.f0 = 2 ∧ d.f3 = 2 then (m, l, !(findR l d.f2).2.2.2)
  else (m, l, false)
/-- How far deeds are accepted: the list there, how many, whether all are. -/
def accsL (m : Int) (l : List Lv) : List De → List Lv × Nat × Bool
  | [] => (l, 0, true)
  | d :: D => if (accR m l d).2.2 = true then ((accsL m (accR m l d).2.1 D).1, (accsL m (accR m l d).2.1 D).2.1 + 1, (accsL m (accR m l d).2.1 D).2.2) else (l, 0, false)
theorem accR_ok {m : Int} (hm : mOk m) {l : List Lv} (hr : rtL m l) {d : De} (h : (accR m l d).2.2 = true) : (accR m l d).1 = m ∧ rtL m (accR m l d).2.1 ∧ (accR m l d).2.1.length ≤ l.length + 1 := by
  unfold accR at h ⊢
  split
  next c =>
    rw [if_pos c] at h
    unfold allocR at h ⊢
    cases e : allocL m l d.f1 d.f2 with
    | none => rw [e] at h; cases h
    | some q =>
      obtain ⟨h1, h2⟩ := allocL_rt hm hr e
      exact ⟨rfl, h1, by dsimp only; omega⟩
  next c =>
    rw [if_neg c] at h
    split
    next => exact ⟨rfl, hr, by dsimp only; omega⟩
    next c2 =>
      rw [if_neg c2] at h
      split
      next => exact ⟨rfl, hr, by dsimp only; omega⟩
      next c3 =>
        rw [if_neg c3] at h
        split
        next c4 =>
          rw [if_pos c4] at h
          unfold freeR at h ⊢
          cases e : findL d.f2 l with
          | none => rw [e] at h; cases h
          | some q => exact ⟨rfl, delL_rt hr, by have := delL_len d.f2 l; dsimp only; omega⟩
        next c4 =>
          split
          · exact ⟨rfl, hr, by dsimp only; omega⟩
          · exact ⟨rfl, hr, by dsimp only; omega⟩
end Go.Proofs.Ytpddppipjlagfaa.Pure

/- The document's find, Free, Find. No statement is proved here. -/
namespace Go.Proofs.Ytpddppipjlagfaa.Pure
open Go.RowKit Go.Proofs.Ytpddppipjlagfaa.Pr Go.Proofs.YtpddppipjlagfaaW.PrintWords Go.Proofs.YtpddppipjlagfaaW.PrintLast Go.Proofs.YtpddppipjlagfaaW.PrintMore
set_option linter.unusedVariables false
set_option linter.unusedSimpArgs false
/-! ### The document's -/
theorem findL_far {m t : Int} {x : Lv} {l : List Lv} (hr : rtL m (x :: l)) (h : t ≤ x.f0) : findL t l = none := by
  have hn : ∀ y ∈ l, ¬ y.f0 = t := by
    intro y hy e
    have := hr.2.1 y hy
    have := hr.1.1.1
    omega
  clear hr h
  induction l with
  | nil => rfl
  | cons y l ih =>
    unfold findL
    rw [if_neg (hn y List.mem_cons_self)]
    exact ih (fun z hz => hn z (List.mem_cons_of_mem _ hz))
theorem rfind_l0 (m a : Int) (suf : List Lv) : ∀ pre : List Lv, rtL m suf → (pre ++ suf).length ≤ 1000 →
    Ev (fun k => rickyardref13_find.l0 k (pre ++ suf) a (pre.length : Int)) (if (findL a suf).isSome = true then ((pre.length + cntL a suf : Nat) : Int) else -1) := by
  induction suf with
  | nil =>
    intro pre hr hl
    refine Ev.step1 (fun k => ?_)
    rw [rickyardref13_find.l0, if_neg (end_nlt pre)]
    rfl
  | cons x suf ih =>
    intro pre hr hl
    have hp : pre.length + suf.length ≤ 999 := by simp at hl; omega
    by_cases c : x.f0 = a
    · refine Ev.step1 (fun k => ?_)
      rw [rickyardref13_find.l0, if_pos (mid_lt pre x suf), if_pos (nn _), rdL_mid, if_pos c]
      have e1 : findL a (x :: suf) = some x := by rw [findL, if_pos c]
      have e2 : cntL a (x :: suf) = 0 := by rw [cntL, if_neg (show ¬ x.f0 < a by omega)]
      rw [e1, e2]
      rfl
    · have := ih (pre ++ [x]) hr.2.2 (by simpa using hl)
      rw [← snoc] at this
      have n1 := nxt pre x (by omega)
      refine Ev.eq (Ev.step (fun k => ?_) this) ?_
      · rw [rickyardref13_find.l0, if_pos (mid_lt pre x suf), if_pos (nn _), rdL_mid, if_neg c, n1]
      · have e1 : findL a (x :: suf) = findL a suf := by rw [findL, if_neg c]
        rw [e1]
        by_cases d : x.f0 < a
        · have e2 : cntL a (x :: suf) = cntL a suf + 1 := by rw [cntL, if_pos d]
          rw [e2]
          simp only [List.length_append, List.length_cons, List.length_nil]
          split
          · omega
          · rfl
        · rw [findL_far hr (by omega)]
          rfl
theorem rfind_ev {m : Int} {l : List Lv} (hr : rtL m l) (hl : l.length ≤ 1000) (a : Int) : Ev (fun k => rickyardref13_find.f k l a) (if (findL a l).isSome = true then (cntL a l : Int) else -1) := by
  obtain ⟨K, h⟩ := rfind_l0 m a l [] hr (by simpa using hl)
  exact ⟨K, fun k hk => by simpa [rickyardref13_find.f] using h k hk⟩
theorem rfree_ev {m : Int} {l : List Lv} (hr : rtL m l) (hl : l.length ≤ 1000) (a : Int) : Ev (fun k => rickyardref13_Free.f k m l a) (freeR m l a) := by
  obtain ⟨K, hK⟩ := rfind_ev hr hl a
  refine ⟨K, fun k hk => ?_⟩
  have h := hK k hk
  dsimp only at h ⊢
  unfold freeR
  cases e : findL a l with
  | none =>
    have h' : rickyardref13_find.f k l a = some (-1) := by rw [h, e]; rfl
    rw [rickyardref13_Free.f, h', Option.bind_some]
    rfl
  | some x =>
    have h' : rickyardref13_find.f k l a = some (cntL a l : Int) := by rw [h, e]; rfl
    rw [rickyardref13_Free.f, h', Option.bind_some]
    obtain ⟨h1, h2⟩ := delL_cnt hr e
    have h3 : cntL a l < l.length := (List.getElem?_eq_some_iff.1 h2).1
    have e1 : wrap64 ((cntL a l : Int) + 1) = ((cntL a l + 1 : Nat) : Int) := by rw [w64 (by omega) (by omega)]; omega
    dsimp only
    rw [if_neg (by omega), Option.bind_some, if_pos (nn _), if_pos (by omega), Option.bind_some, if_pos (by simp; omega), Option.bind_some, e1, if_pos (nn _), if_pos (by omega), Option.bind_some, if_pos (by simp; omega), h1]
    simp
end Go.Proofs.Ytpddppipjlagfaa.Pure
-- Printed by a program of this session (wip/tools/myprint.py) that runs the kit's print with contracts of this session's own.
namespace Go.Proofs.Ytpddppipjlagfaa.Pr
open Go.RowKit Go.Proofs.YtpddppipjlagfaaW.PrintWords Go.Proofs.YtpddppipjlagfaaW.PrintLast Go.Proofs.YtpddppipjlagfaaW.PrintMore
attribute [local go_sem] max2_int min2_int max_two min_two max_three min_three max_four min_four   -- for this text's walks alone
set_option linter.unusedVariables false
set_option linter.unusedSimpArgs false

/-! ### api_Op_31_32: function 31 with 32 (a contract of this session's own) -/
def api_Op_31_32.bad (x : S40) : Bool := decide (x.f1 < 0) || (decide (2147483648 < x.f1) || (decide (x.f2 ≠ -1) && (decide (x.f2 < x.f1) || decide (2147483648 < x.f2))))
theorem api_Op_31_32.bad_is (x : S40) : lin_May_1.f x.f0.f0 x.f0.f1 x.f0.f2 x.f0.f3 x.f1 x.f2 = some (api_Op_31_32.bad x) := by
 unfold lin_May_1.f api_Op_31_32.bad
 by_cases c1 : x.f1 < 0
 ·rw [if_pos c1, decide_eq_true c1, Bool.true_or]
 ·rw [if_neg c1, decide_eq_false c1, Bool.false_or]
  by_cases c2 : x.f1 > 2147483648
  ·rw [if_pos c2, decide_eq_true (show 2147483648 < x.f1 from c2), Bool.true_or]
  ·rw [if_neg c2, decide_eq_false (show ¬ 2147483648 < x.f1 from c2), Bool.false_or]
   unfold lin_ended.f
   rw [Option.bind_some]
   by_cases c3 : x.f2 = -1
   ·rw [if_neg (by simp [c3]), decide_eq_false (by simp [c3]), Bool.false_and]
   ·rw [if_pos (by simp [c3]), decide_eq_true c3, Bool.true_and]
    by_cases c4 : x.f2 < x.f1
    ·rw [if_pos c4, decide_eq_true c4, Bool.true_or]
    ·rw [if_neg c4, decide_eq_false c4, Bool.false_or]
def api_Op_31_32.f (l0 : List (S40)) : Option (Bool) := if l0.length ≤ 17592186044416 then some (l0.any api_Op_31_32.bad) else none
theorem api_Op_31_32.calls (A0 : Option Addr) (c0 : Nat) (l0 : List (S40)) (r : Bool) (w : World) (hr0 : Kd.C k40 w A0 l0.length l0) (hc0 : l0.length ≤ c0) (h : api_Op_31_32.f l0 = some r) :
  Calls Try.prog 31 #[.slice A0 l0.length c0, .func (.func 32) #[] #[]] w fun e w' => e = .returned (.bool r) ∧ Below w.heap.size w w' := by
 unfold api_Op_31_32.f at h
 split at h
 next hl =>
  obtain rfl := Option.some.inj h
  exact contains_op api_Op_31_32.bad 32 #[] A0 c0 l0 w (enters_of Try.func32 (by kernel_rfl) rfl) hr0 hl (fun W hW x => by simpa using lin_May_1.calls _ _ _ _ _ _ _ W (api_Op_31_32.bad_is x))
 next => cases h

end Go.Proofs.Ytpddppipjlagfaa.Pr
