/- Several texts in one: ModelLaw1, ModelRight, ModelCalls. -/
import Derived.Test.YtflhbakjlbmfbaaModelPure
import Derived.Test.YtflhbakjlbmfbaaPrx27
import Derived.Test.YtflhbakjlbmfbaaPrx29
import Derived.Test.YtflhbakjlbmfbaaRefAlloc
import Derived.Test.YtflhbakjlbmfbaaPrx20
/- What the printed functions on models answer. No statement is proved here. -/
namespace Go.Proofs.Ytflhbakjlbmfbaa.Pure
open Go.RowKit Go.Proofs.Ytflhbakjlbmfbaa.Pr Go.Proofs.YtflhbakjlbmfbaaW.PrintWords Go.Proofs.YtflhbakjlbmfbaaW.PrintLast Go.Proofs.YtflhbakjlbmfbaaW.PrintMore
set_option linter.unusedVariables false
set_option linter.unusedSimpArgs false

/-! ### Places -/
theorem place_is {m : Int} {l : List Lv} (hr : rtL m l) (hl : l.length ≤ 1000) (a : Int) : model_place.f l a = some ((cntL a l : Int), (findL a l).isSome) := by
 unfold model_place.f
 rw [if_pos (by omega), bs_cntL hr]
 have : bsB (liveAt a) l = (findL a l).isSome := by
  unfold bsB
  rw [bs_cntL hr, ← findL_cnt hr]
  cases l[cntL a l]? with
  | none => rfl
  | some x =>
   dsimp only
   by_cases c : x.f0 = a
   ·rw [if_pos c, decide_eq_true ((liveAt_zero a x).2 c)]; rfl
   ·rw [if_neg c, decide_eq_false (fun h => c ((liveAt_zero a x).1 h))]; rfl
 rw [this]
theorem alloc_ev {m : Int} (hm : mOk m) {l : List Lv} (hr : rtL m l) (hl : l.length ≤ 1000) (n a : Int) : Ev (fun k => model_Alloc.f k m l n a) (allocR m l n a) := by
 obtain ⟨K, hK⟩ := (class_ev n).1
 refine ⟨K + 1, fun k hk => ?_⟩
 obtain ⟨k, rfl⟩ : ∃ j, k = j + 1 := ⟨k - 1, by omega⟩
 have h := hK (k + 1) (by omega)
 dsimp only at h ⊢
 rw [model_Alloc.f, h, Option.bind_some]
 unfold allocR allocL clsR
 by_cases c1 : nOk n
 ·have e1 := lies_is hm ⟨a, cls n, -1⟩
  dsimp only at e1
  rw [if_pos c1]
  dsimp only
  rw [if_pos rfl, e1, Option.bind_some]
  by_cases c2 : lieP m ⟨a, cls n, -1⟩
  ·rw [decide_eq_true c2, if_pos rfl]
   unfold api_Live_53_54.f
   rw [if_pos (by omega), Option.bind_some]
   by_cases c3 : l.any (liveOver ⟨a, cls n, -1⟩) = true
   ·rw [c3, model_Alloc.j0, if_pos rfl, if_neg (by simp)]
   ·have c3' : l.any (liveOver ⟨a, cls n, -1⟩) = false := by simpa using c3
    have := cntL_le a l
    rw [c3', model_Alloc.j0, if_neg (by simp), place_is hr hl, Option.bind_some]
    unfold api_Live_58.f
    rw [if_pos (by omega), Option.bind_some]
    unfold api_Live_57.f ins_live
    rw [if_pos ⟨rfl, nn _, by dsimp only; omega, by omega⟩, Option.bind_some, if_pos ⟨c1, c2, rfl⟩, insL_cnt]
    rfl
  ·rw [decide_eq_false c2, if_neg (by simp), model_Alloc.j0, if_pos rfl, if_neg (fun h => c2 h.2.1)]
 ·rw [if_neg c1]
  dsimp only
  rw [if_neg (by simp), model_Alloc.j0, if_pos rfl, if_neg (fun h => c1 h.1)]
theorem free_is {m : Int} {l : List Lv} (hr : rtL m l) (hl : l.length ≤ 1000) (a : Int) : model_Free.f m l a = some (freeR m l a) := by
 unfold model_Free.f freeR
 rw [place_is hr hl, Option.bind_some]
 cases e : findL a l with
 | none => rfl
 | some x =>
  obtain ⟨h1, h2⟩ := delL_cnt hr e
  have h3 : cntL a l < l.length := (List.getElem?_eq_some_iff.1 h2).1
  dsimp only [Option.isSome]
  rw [if_pos rfl]
  unfold api_Live_58.f
  rw [if_pos (by omega), Option.bind_some]
  unfold api_Live_59.f del_live
  rw [if_pos ⟨nn _, by omega, w64 (by omega) (by omega)⟩, Option.bind_some, h1]
  rfl
theorem rdL_get (l : List Lv) (i : Nat) (x : Lv) (h : l[i]? = some x) : rd_T48 l (i : Int) = x := by
 simp [rd_T48, List.getD_eq_getElem?_getD, h]
theorem find_is {m : Int} {l : List Lv} (hr : rtL m l) (hl : l.length ≤ 1000) (a : Int) : model_Find.f m l a = some (findR l a) := by
 unfold model_Find.f findR
 rw [place_is hr hl, Option.bind_some]
 cases e : findL a l with
 | none => rfl
 | some x =>
  obtain ⟨h1, h2⟩ := delL_cnt hr e
  have h3 : cntL a l < l.length := (List.getElem?_eq_some_iff.1 h2).1
  dsimp only [Option.isSome]
  rw [if_pos rfl, if_pos (nn _), if_pos (by omega), rdL_get _ _ _ h2]

/-- Two lists are alike. -/
theorem same_l0 (suf suf' : List Lv) : ∀ (pre pre' : List Lv), pre.length = pre'.length → suf.length = suf'.length → (pre ++ suf).length < 9223372036854775807 →
  Ev (fun k => rickyardref13_SameLive.l0 k (pre ++ suf) (pre' ++ suf') (pre.length : Int)) (decide (suf = suf')) := by
 induction suf generalizing suf' with
 | nil =>
  intro pre pre' h1 h2 h3
  have : suf' = [] := List.eq_nil_of_length_eq_zero h2.symm
  subst this
  refine Ev.step1 (fun k => ?_)
  simp only [rickyardref13_SameLive.l0]
  rw [if_neg (end_nlt pre)]
  rfl
 | cons x suf ih =>
  intro pre pre' h1 h2 h3
  cases suf' with
  | nil => cases h2
  | cons y suf' =>
   have hl : pre.length < 9223372036854775807 := by simp at h3; omega
   have e1 := rdL_mid pre x suf
   have e2 := rdL_mid pre' y suf'
   by_cases c : x = y
   ·subst c
    have := ih suf' (pre ++ [x]) (pre' ++ [x]) (by simp [h1]) (by simpa using h2) (by simpa using h3)
    rw [← snoc, ← snoc] at this
    refine Ev.eq (Ev.step (fun k => ?_) this) (by simp)
    simp only [rickyardref13_SameLive.l0]
    rw [if_pos (mid_lt pre x suf), if_pos (nn _), if_pos (by rw [h1]; exact mid_lt pre' x suf'), e1, h1, e2, if_neg (by simp), ← h1, nxt pre x hl]
   ·refine Ev.eq (r := false) (Ev.step1 (fun k => ?_)) (by simp [c])
    simp only [rickyardref13_SameLive.l0]
    rw [if_pos (mid_lt pre x suf), if_pos (nn _), if_pos (by rw [h1]; exact mid_lt pre' y suf'), e1, h1, e2, if_pos (by
     rcases x with ⟨x0, x1, x2⟩
     rcases y with ⟨y0, y1, y2⟩
     simp at c ⊢
     by_cases d : x0 = y0
     ·by_cases d' : x1 = y1
      ·right; right; exact c d d'
      ·right; left; exact d'
     ·left; exact d)]
theorem same_ev (l m : List Lv) (h : l.length < 9223372036854775807) : Ev (fun k => rickyardref13_SameLive.f k l m) (decide (l = m)) := by
 by_cases c : l.length = m.length
 ·have := same_l0 l m [] [] rfl c (by simpa using h)
  refine Ev.eq ?_ rfl
  obtain ⟨K, hK⟩ := this
  refine ⟨K, fun k hk => ?_⟩
  simp only [rickyardref13_SameLive.f]
  rw [if_pos (by omega)]
  exact hK k hk
 ·refine Ev.some_ (fun k => ?_)
  simp only [rickyardref13_SameLive.f]
  rw [if_neg (by omega), decide_eq_false (by intro h; rw [h] at c; exact c rfl)]
theorem samem_ev (a b : Int) (l m : List Lv) (h : l.length < 9223372036854775807) : Ev (fun k => rickyardref13_SameModel.f k a l b m) (decide (a = b ∧ l = m)) := by
 by_cases c : a = b
 ·obtain ⟨K, hK⟩ := same_ev l m h
  refine ⟨K, fun k hk => ?_⟩
  have := hK k hk
  dsimp only at this ⊢
  rw [rickyardref13_SameModel.f, if_pos c, this, Option.bind_some]
  simp [c]
 ·refine Ev.some_ (fun k => ?_)
  rw [rickyardref13_SameModel.f, if_neg c]
  simp [c]
end Go.Proofs.Ytflhbakjlbmfbaa.Pure

/- The document's Alloc is the model's. No statement is proved here. -/
namespace Go.Proofs.Ytflhbakjlbmfbaa.Pure
open Go.RowKit Go.Proofs.Ytflhbakjlbmfbaa.Pr Go.Proofs.YtflhbakjlbmfbaaW.PrintWords Go.Proofs.YtflhbakjlbmfbaaW.PrintLast Go.Proofs.YtflhbakjlbmfbaaW.PrintMore
set_option linter.unusedVariables false
set_option linter.unusedSimpArgs false
theorem lastL_zero {t : Int} (l : List Lv) (h : ∀ x ∈ l, ¬ x.f0 < t) : ∀ i q, lastL t l i q = q := by
 induction l with
 | nil => intro i q; rfl
 | cons x l ih =>
  intro i q
  rw [lastL, if_neg (h x List.mem_cons_self)]
  exact ih (fun y hy => h y (List.mem_cons_of_mem _ hy)) _ _
theorem lastL_cnt {m t : Int} {l : List Lv} (hr : rtL m l) : ∀ i q, lastL t l i q = if cntL t l = 0 then q else i + cntL t l := by
 induction l with
 | nil => intro i q; rfl
 | cons x l ih =>
  intro i q
  rw [lastL]
  unfold cntL
  by_cases c : x.f0 < t
  ·rw [if_pos c, if_pos c, ih hr.2.2, if_neg (show ¬ cntL t l + 1 = 0 by omega)]
   split <;> omega
  ·rw [if_neg c, if_neg c, if_pos rfl]
   refine lastL_zero l (fun y hy => ?_) _ _
   have := hr.2.1 y hy
   have := hr.1.1.1
   omega
theorem argBad_is {m : Int} (hm : mOk m) (n a : Int) : argBad m n a = !decide (nOk n ∧ lieP m ⟨a, cls n, -1⟩) := by
 have e : lieP m ⟨a, cls n, -1⟩ ↔ (0 < wd (cls n) ∧ 0 ≤ a ∧ a % 32 = 0 ∧ a + wd (cls n) ≤ m) := Iff.rfl
 have hw := wd_range (cls n)
 have hc := cls_range n
 have hw2 := wd_cases (cls n)
 unfold mOk at hm
 unfold argBad
 by_cases c1 : nOk n
 ·rw [decide_eq_true c1]
  by_cases c2 : a < 0
  ·rw [decide_eq_true c2, decide_eq_false (show ¬ (nOk n ∧ lieP m ⟨a, cls n, -1⟩) by rw [e]; omega)]; simp
  ·rw [decide_eq_false c2, tmod_emod (by omega)]
   by_cases c3 : a % 32 = 0
   ·rw [decide_eq_false (show ¬ a % 32 ≠ 0 by omega)]
    by_cases c4 : a > m
    ·rw [decide_eq_true c4, decide_eq_false (show ¬ (nOk n ∧ lieP m ⟨a, cls n, -1⟩) by rw [e]; omega)]; simp
    ·rw [decide_eq_false c4, w64 (by omega) (by omega)]
     rw [Bool.eq_iff_iff]
     simp [c1, e]
     omega
   ·rw [decide_eq_true (show a % 32 ≠ 0 by omega), decide_eq_false (show ¬ (nOk n ∧ lieP m ⟨a, cls n, -1⟩) by rw [e]; omega)]; simp
 ·rw [decide_eq_false c1, decide_eq_false (show ¬ (nOk n ∧ lieP m ⟨a, cls n, -1⟩) from fun h => c1 h.1)]; simp
theorem ralloc_is {m : Int} (hm : mOk m) {l : List Lv} (hr : rtL m l) (n a : Int) : rallocG m l n a = allocR m l n a := by
 unfold rallocG allocR allocL
 rw [argBad_is hm]
 have hq : lastL a l 0 0 = cntL a l := by
  rw [lastL_cnt hr]
  split <;> omega
 by_cases c : nOk n ∧ lieP m ⟨a, cls n, -1⟩
 ·rw [decide_eq_true c]
  by_cases d : l.any (liveOver ⟨a, cls n, -1⟩) = true
  ·rw [if_pos (Or.inr d), if_neg (by rw [d]; simp)]
  ·have d' : l.any (liveOver ⟨a, cls n, -1⟩) = false := by simpa using d
   rw [if_neg (by rw [d']; simp), if_pos ⟨c.1, c.2, d'⟩, hq, insL_cnt]
 ·rw [decide_eq_false c, if_pos (Or.inl (by simp)), if_neg (fun h => c ⟨h.1, h.2.1⟩)]
/-! ### Which models may be -/
theorem allocR_rt {m : Int} (hm : mOk m) {q : List Lv} (h : rtL m q) (n a : Int) : (allocR m q n a).2.2 = true → (allocR m q n a).1 = m ∧ rtL m (allocR m q n a).2.1 ∧ (allocR m q n a).2.1.length ≤ q.length + 1 := by
 intro hz
 unfold allocR at hz ⊢
 cases e : allocL m q n a with
 | none => rw [e] at hz; cases hz
 | some x => obtain ⟨h1, h2⟩ := allocL_rt hm h e; exact ⟨rfl, h1, by dsimp only; omega⟩
end Go.Proofs.Ytflhbakjlbmfbaa.Pure

/- The functions on models: contracts that read, in one form. No statement is proved here. -/
namespace Go.Proofs.Ytflhbakjlbmfbaa
set_option linter.unusedVariables false
set_option linter.unusedSimpArgs false
open Go.RowKit Go.Proofs.YtflhbakjlbmfbaaW.PrintWords Go.Proofs.YtflhbakjlbmfbaaW.PrintLast Go.Proofs.YtflhbakjlbmfbaaW.PrintMore Pr Go.Proofs.Ytflhbakjlbmfbaa.Pure

/-- A value is a row that reads so. -/
def Rd (W : World) (v : Value) (l : List Lv) : Prop := ∃ A c, v = .slice A l.length c ∧ l.length ≤ c ∧ Kd.C k48 W A l.length l
theorem Rd.below {W W' : World} {v : Value} {l : List Lv} (h : Rd W v l) (hb : Below W.heap.size W W') : Rd W' v l := by
 obtain ⟨A, c, h1, h2, h3⟩ := h
 exact ⟨A, c, h1, h2, Kd.C_below h3 hb⟩
theorem Rd.ofR {W : World} {base : Nat} {ok : Nat → Prop} {v : Value} {l : List Lv} (h : Kd.R k48 48 W base ok v l) : Rd W v l := by
 obtain ⟨A, c, e⟩ := Kd.R_slice h
 subst e
 exact ⟨A, c, rfl, (Kd.R_reads' h).2.1, (Kd.R_reads' h).2.2⟩
theorem Rd.ofF {W : World} {ok : Nat → Prop} {A : Option Addr} {c : Nat} {l : List Lv} (hc : l.length ≤ c) (h : Kd.F k48 W ok A l.length l) : Rd W (.slice A l.length c) l := ⟨A, c, rfl, hc, Kd.F_now h⟩
theorem Rd.nil (W : World) : Rd W (.slice none 0 0) [] := ⟨none, 0, rfl, Nat.le_refl _, Kd.C_nil _ _⟩
set_option maxHeartbeats 1000000 in
theorem new_any (m : Int) (w : World) : Calls Try.prog 36 #[.int .i64 m] w fun e w' => e = .returned (.agg #[.int .i64 m, .slice none 0 0]) ∧ Below w.heap.size w w' := by
 have hu2 := Try.underlying41
 go_enter Try.func36, Try.ntmps36
 go_wp2
 refine bodyPost_ret (v := .agg #[.int .i64 m, .slice none 0 0]) (by simp [results, Try.results36, go_sem]) rfl ?_
 exact ⟨rfl, below_alloc (Below.refl _ _) _⟩
section
variable {m : Int} {v : Value} {l : List Lv} {w : World}
theorem alloc_any (hm : mOk m) (hr : rtL m l) (hl : l.length ≤ 1000) (h : Rd w v l) (n a : Int) :
  Calls Try.prog 21 #[.agg #[.int .i64 m, v], .int .i64 n, .int .i64 a] w fun e w' => ∃ u, e = .returned (.tuple #[.agg #[.int .i64 (allocR m l n a).1, u], .bool (allocR m l n a).2.2]) ∧ Rd w' u (allocR m l n a).2.1 ∧ Below w.heap.size w w' := by
 obtain ⟨A, c, rfl, h2, h3⟩ := h
 obtain ⟨k, hk⟩ := (alloc_ev hm hr hl n a).rounds
 exact (model_Alloc.calls k m A c l n a _ _ _ w h3 h2 hk).mono (fun e w' ⟨u, h4, h5, h6⟩ => ⟨u, h4, Rd.ofR h5, h6⟩)
theorem ralloc_anyR (hm : mOk m) (hr : rtL m l) (hl : l.length ≤ 1000) (h : Rd w v l) (n a : Int) :
  Calls Try.prog 50 #[.agg #[.int .i64 m, v], .int .i64 n, .int .i64 a] w fun e w' => ∃ u, e = .returned (.tuple #[.agg #[.int .i64 (allocR m l n a).1, u], .bool (allocR m l n a).2.2]) ∧ Rd w' u (allocR m l n a).2.1 ∧ Below w.heap.size w w' := by
 obtain ⟨A, c, rfl, h2, h3⟩ := h
 exact (rickyardref13_Alloc.calls m A c l n a _ _ _ w h3 h2 (by unfold rickyardref13_Alloc.f; rw [if_pos hl, ralloc_is hm hr])).mono (fun e w' ⟨u, h4, h5, h6⟩ => ⟨u, h4, Rd.ofR h5, h6⟩)
theorem free_any (hr : rtL m l) (hl : l.length ≤ 1000) (h : Rd w v l) (a : Int) :
  Calls Try.prog 25 #[.agg #[.int .i64 m, v], .int .i64 a] w fun e w' => ∃ u, e = .returned (.tuple #[.agg #[.int .i64 (freeR m l a).1, u], .int .i64 (freeR m l a).2.2]) ∧ Rd w' u (freeR m l a).2.1 ∧ Below w.heap.size w w' := by
 obtain ⟨A, c, rfl, h2, h3⟩ := h
 exact (model_Free.calls m A c l a _ _ _ w h3 h2 (free_is hr hl a)).mono (fun e w' ⟨u, h4, h5, h6⟩ => ⟨u, h4, Rd.ofR h5, h6⟩)
theorem find_any (hr : rtL m l) (hl : l.length ≤ 1000) (h : Rd w v l) (a : Int) :
  Calls Try.prog 24 #[.agg #[.int .i64 m, v], .int .i64 a] w fun e w' => e = .returned (.tuple #[.agg #[.int .i64 (findR l a).1, .int .i64 (findR l a).2.1, .int .i64 (findR l a).2.2.1], .bool (findR l a).2.2.2]) ∧ Below w.heap.size w w' := by
 obtain ⟨A, c, rfl, h2, h3⟩ := h
 exact model_Find.calls m A c l a _ _ _ _ w h3 h2 (find_is hr hl a)
theorem samem_any (hl : l.length < 9223372036854775807) (h : Rd w v l) {u : Value} (h' : Rd w u l) :
  Calls Try.prog 26 #[.agg #[.int .i64 m, v], .agg #[.int .i64 m, u]] w fun e w' => e = .returned (.bool true) ∧ Below w.heap.size w w' := by
 obtain ⟨A, c, rfl, h2, h3⟩ := h
 obtain ⟨A', c', rfl, h2', h3'⟩ := h'
 obtain ⟨k, hk⟩ := (samem_ev m m l l hl).rounds
 exact rickyardref13_SameModel.calls k m A c l m A' c' l true w h3 h2 h3' h2' (by rw [hk]; simp)
end
theorem awake_ev : Ev (fun k => rickyardlaw13_awake.f k) true := by
 obtain ⟨K1, h1⟩ := alloc_ev (m := 64) (by decide) (l := []) trivial (by simp) 32 0
 have e1 : allocR 64 [] 32 0 = (64, [⟨0, 0, -1⟩], true) := by decide
 have r1 : rtL 64 [⟨0, 0, -1⟩] := (allocL_rt (m := 64) (by decide) (l := []) (q := [⟨0, 0, -1⟩]) trivial (n := 32) (a := 0) (by decide)).1
 obtain ⟨K2, h2⟩ := alloc_ev (m := 64) (by decide) (l := [⟨0, 0, -1⟩]) r1 (by simp) 32 32
 have e2 : allocR 64 [⟨0, 0, -1⟩] 32 32 = (64, [⟨0, 0, -1⟩, ⟨32, 0, -1⟩], true) := by decide
 have r2 : rtL 64 [⟨0, 0, -1⟩, ⟨32, 0, -1⟩] := (allocL_rt (m := 64) (by decide) (l := [⟨0, 0, -1⟩]) (q := [⟨0, 0, -1⟩, ⟨32, 0, -1⟩]) r1 (n := 32) (a := 32) (by decide)).1
 obtain ⟨K3, h3⟩ := alloc_ev (m := 64) (by decide) (l := [⟨0, 0, -1⟩, ⟨32, 0, -1⟩]) r2 (by simp) 1 0
 have e3 : allocR 64 [⟨0, 0, -1⟩, ⟨32, 0, -1⟩] 1 0 = (0, [], false) := by decide
 refine ⟨K1 + K2 + K3, fun k hk => ?_⟩
 have h1 := h1 k (by omega)
 have h2 := h2 k (by omega)
 have h3 := h3 k (by omega)
 dsimp only at h1 h2 h3 ⊢
 rw [rickyardlaw13_awake.f, model_New.f, Option.bind_some]
 dsimp only
 rw [h1, e1, Option.bind_some]
 dsimp only
 rw [h2, e2, Option.bind_some]
 dsimp only
 rw [h3, e3, Option.bind_some]
 decide
theorem awake_any (w : World) : Calls Try.prog 22 #[] w fun e w' => e = .returned (.bool true) ∧ Below w.heap.size w w' := by
 obtain ⟨k, hk⟩ := awake_ev.rounds
 exact rickyardlaw13_awake.calls k true w hk
end Go.Proofs.Ytflhbakjlbmfbaa
