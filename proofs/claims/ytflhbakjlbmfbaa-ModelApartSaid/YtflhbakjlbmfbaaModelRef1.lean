/- The document's find, Free, Find. No statement is proved here. -/
import Derived.Test.YtflhbakjlbmfbaaModelCalls
import Derived.Test.YtflhbakjlbmfbaaPrx38
import Derived.Test.YtflhbakjlbmfbaaPrx39
namespace Go.Proofs.Ytflhbakjlbmfbaa.Pure
open Go.RowKit Go.Proofs.Ytflhbakjlbmfbaa.Pr Go.Proofs.YtflhbakjlbmfbaaW.PrintWords Go.Proofs.YtflhbakjlbmfbaaW.PrintLast Go.Proofs.YtflhbakjlbmfbaaW.PrintMore
set_option linter.unusedVariables false
set_option linter.unusedSimpArgs false
/-! ### The document's -/
theorem findL_far {m t : Int} {x : Lv} {l : List Lv} (hr : rtL m (x :: l)) (h : t ≤ x.f0) : findL t l = none := by
  have hn : ∀ y ∈ l, ¬ y.f0 = t := by
    intro y hy e
    have := hr.2.1 y hy
    have := hr.1.1.1
    omega
  clear hr h
  induction l with
  | nil => rfl
  | cons y l ih =>
    unfold findL
    rw [if_neg (hn y List.mem_cons_self)]
    exact ih (fun z hz => hn z (List.mem_cons_of_mem _ hz))
theorem rfind_l0 (m a : Int) (suf : List Lv) : ∀ pre : List Lv, rtL m suf → (pre ++ suf).length ≤ 1000 →
    Ev (fun k => rickyardref13_find.l0 k (pre ++ suf) a (pre.length : Int)) (if (findL a suf).isSome = true then ((pre.length + cntL a suf : Nat) : Int) else -1) := by
  induction suf with
  | nil =>
    intro pre hr hl
    refine Ev.step1 (fun k => ?_)
    rw [rickyardref13_find.l0, if_neg (end_nlt pre)]
    rfl
  | cons x suf ih =>
    intro pre hr hl
    have hp : pre.length + suf.length ≤ 999 := by simp at hl; omega
    by_cases c : x.f0 = a
    · refine Ev.step1 (fun k => ?_)
      rw [rickyardref13_find.l0, if_pos (mid_lt pre x suf), if_pos (nn _), rdL_mid, if_pos c]
      have e1 : findL a (x :: suf) = some x := by rw [findL, if_pos c]
      have e2 : cntL a (x :: suf) = 0 := by rw [cntL, if_neg (show ¬ x.f0 < a by omega)]
      rw [e1, e2]
      rfl
    · have := ih (pre ++ [x]) hr.2.2 (by simpa using hl)
      rw [← snoc] at this
      have n1 := nxt pre x (by omega)
      refine Ev.eq (Ev.step (fun k => ?_) this) ?_
      · rw [rickyardref13_find.l0, if_pos (mid_lt pre x suf), if_pos (nn _), rdL_mid, if_neg c, n1]
      · have e1 : findL a (x :: suf) = findL a suf := by rw [findL, if_neg c]
        rw [e1]
        by_cases d : x.f0 < a
        · have e2 : cntL a (x :: suf) = cntL a suf + 1 := by rw [cntL, if_pos d]
          rw [e2]
          simp only [List.length_append, List.length_cons, List.length_nil]
          split
          · omega
          · rfl
        · rw [findL_far hr (by omega)]
          rfl
theorem rfind_ev {m : Int} {l : List Lv} (hr : rtL m l) (hl : l.length ≤ 1000) (a : Int) : Ev (fun k => rickyardref13_find.f k l a) (if (findL a l).isSome = true then (cntL a l : Int) else -1) := by
  obtain ⟨K, h⟩ := rfind_l0 m a l [] hr (by simpa using hl)
  exact ⟨K, fun k hk => by simpa [rickyardref13_find.f] using h k hk⟩
theorem rfree_ev {m : Int} {l : List Lv} (hr : rtL m l) (hl : l.length ≤ 1000) (a : Int) : Ev (fun k => rickyardref13_Free.f k m l a) (freeR m l a) := by
  obtain ⟨K, hK⟩ := rfind_ev hr hl a
  refine ⟨K, fun k hk => ?_⟩
  have h := hK k hk
  dsimp only at h ⊢
  unfold freeR
  cases e : findL a l with
  | none =>
    have h' : rickyardref13_find.f k l a = some (-1) := by rw [h, e]; rfl
    rw [rickyardref13_Free.f, h', Option.bind_some]
    rfl
  | some x =>
    have h' : rickyardref13_find.f k l a = some (cntL a l : Int) := by rw [h, e]; rfl
    rw [rickyardref13_Free.f, h', Option.bind_some]
    obtain ⟨h1, h2⟩ := delL_cnt hr e
    have h3 : cntL a l < l.length := (List.getElem?_eq_some_iff.1 h2).1
    have e1 : wrap64 ((cntL a l : Int) + 1) = ((cntL a l + 1 : Nat) : Int) := by rw [w64 (by omega) (by omega)]; omega
    dsimp only
    rw [if_neg (by omega), Option.bind_some, if_pos (nn _), if_pos (by omega), Option.bind_some, if_pos (by simp; omega), Option.bind_some, e1, if_pos (nn _), if_pos (by omega), Option.bind_some, if_pos (by simp; omega), h1]
    simp
theorem rfindm_ev {m : Int} {l : List Lv} (hr : rtL m l) (hl : l.length ≤ 1000) (a : Int) : Ev (fun k => rickyardref13_Find.f k m l a) (findR l a) := by
  obtain ⟨K, hK⟩ := rfind_ev hr hl a
  refine ⟨K, fun k hk => ?_⟩
  have h := hK k hk
  dsimp only at h ⊢
  unfold findR
  cases e : findL a l with
  | none =>
    have h' : rickyardref13_find.f k l a = some (-1) := by rw [h, e]; rfl
    rw [rickyardref13_Find.f, h', Option.bind_some, if_pos (by omega)]
    rfl
  | some x =>
    obtain ⟨h1, h2⟩ := delL_cnt hr e
    have h3 : cntL a l < l.length := (List.getElem?_eq_some_iff.1 h2).1
    have h' : rickyardref13_find.f k l a = some (cntL a l : Int) := by rw [h, e]; rfl
    rw [rickyardref13_Find.f, h', Option.bind_some, if_pos (by omega), if_neg (by omega), rdL_get _ _ _ h2]
end Go.Proofs.Ytflhbakjlbmfbaa.Pure
