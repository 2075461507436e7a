/- LargeOnce: whatever numbers the stacks are made of, the answer is true: the plain statement. No memory and no program in it. -/
import Derived.Test.YtflhbakjlbmfbaaLargePure
import Derived.Test.YtflhbakjlbmfbaaPrx34
import Derived.Test.YtflhbakjlbmfbaaPrx33
namespace Go.Proofs.Ytflhbakjlbmfbaa.Pure
set_option linter.unusedVariables false
set_option linter.unusedSimpArgs false
open Go.RowKit Go.Proofs.Ytflhbakjlbmfbaa.Pr Go.Proofs.YtflhbakjlbmfbaaW.PrintWords Go.Proofs.YtflhbakjlbmfbaaW.PrintLast Go.Proofs.YtflhbakjlbmfbaaW.PrintMore

theorem rtB_sub {m l : List Bg} (h : List.Sublist m l) (hl : rtB l) : rtB m := by
  induction h with
  | slnil => trivial
  | cons a _ ih => exact ih hl.2.2
  | cons_cons a h ih => exact ⟨hl.1, fun y hy => hl.2.1 y (h.subset hy), ih hl.2.2⟩
theorem rtB_mid {pre suf : List Bg} {x : Bg} (h : rtB (pre ++ x :: suf)) : ∀ y ∈ pre, ahd y x ∧ bigOver x y = false := by
  induction pre with
  | nil => simp
  | cons z pre ih =>
    intro y hy
    rcases List.mem_cons.1 hy with rfl | hy
    · exact h.2.1 x (by simp)
    · exact ih h.2.2 y hy
theorem order_any (k : Nat) (x b : Bg) : large_order.f (k + 3) x.f0 x.f1 b.f0 b.f1 = some (bigOrder b x) := by
  rw [large_order.f, compare_is, Option.bind_some, compare_is, Option.bind_some, or_is k, Option.bind_some]
  unfold bigOrder
  simp only [Option.some.injEq]
  by_cases c1 : x.f1 < b.f1
  · simp [c1]
  · by_cases c2 : x.f1 > b.f1
    · simp [c1, c2]
    · simp [c1, c2]
theorem right_j1 (pre suf : List Bg) (x : Bg) (hr : rtB (pre ++ x :: suf)) (hl : (pre ++ x :: suf).length ≤ 1000) (n : Int) (k : Nat) :
    large_Right.j1 (k + 1) (pre ++ x :: suf) (pre.length : Int) (pre ++ x :: suf) n (pre.length : Int) false x.f0 x.f1 = large_Right.l0 k (pre ++ x :: suf) (pre ++ x :: suf) n ((pre ++ [x]).length : Int) := by
  have hp : pre.length < 9223372036854775807 := by simp at hl; omega
  have n1 := nxt pre x hp
  have c1 : (pre.length : Int) ≤ ((pre ++ x :: suf).length : Int) := by have := mid_lt pre x suf; omega
  have c2 : (pre ++ x :: suf).take ((pre.length : Int).toNat) = pre := by simp
  have c3 : pre.any (bigOver x) = false := by
    rw [List.any_eq_false]
    intro y hy
    rw [(rtB_mid hr y hy).2]
    simp
  have c4 : pre.length ≤ 17592186044416 := by simp at hl; omega
  have hx : (⟨x.f0, x.f1⟩ : Bg) = x := rfl
  simp only [large_Right.j1, n1]
  rw [if_neg (by simp), if_pos (nn _), if_pos c1, c2]
  unfold api_Big_40_61.f
  rw [if_pos c4, Option.bind_some, hx, c3, if_neg (by simp)]
theorem right_step (pre suf : List Bg) (x : Bg) (hr : rtB (pre ++ x :: suf)) (hl : (pre ++ x :: suf).length ≤ 1000) (n : Int) (hn : n = ((pre ++ x :: suf).length : Int)) (k : Nat) :
    large_Right.l0 (k + 4) (pre ++ x :: suf) (pre ++ x :: suf) n (pre.length : Int) = large_Right.l0 (k + 2) (pre ++ x :: suf) (pre ++ x :: suf) n ((pre ++ [x]).length : Int) := by
  have c1 := mid_lt pre x suf
  have hm : mayP x := rtB_may hr (by simp)
  have hj := right_j1 pre suf x hr hl n (k + 2)
  have hx : decide (mayP (⟨x.f0, x.f1⟩ : Bg)) = true := decide_eq_true hm
  rw [large_Right.l0, if_pos (by rw [hn]; exact c1), if_pos (nn _), if_pos c1, rd_mid, may_is, Option.bind_some, if_pos hx]
  rcases List.eq_nil_or_concat pre with rfl | ⟨p, y, rfl⟩
  · rw [if_neg (by simp)]
    exact hj
  · simp only [List.concat_eq_append] at hr hl hn c1 hj ⊢
    have hp : p.length ≤ 1000 := by simp at hl; omega
    have e1 : wrap64 (((p ++ [y]).length : Int) - 1) = (p.length : Int) := by
      rw [w64 (by simp <;> omega) (by simp <;> omega)]; simp
    have e2 : rd_T29 (p ++ [y] ++ x :: suf) (p.length : Int) = y := by
      rw [List.append_assoc]
      exact rd_mid p y (x :: suf)
    have e3 : (p.length : Int) < ((p ++ [y] ++ x :: suf).length : Int) := by simp; omega
    have e4 : ¬ bigOrder x y ≥ 0 := by
      have := (order_ahd x y).2 (rtB_mid hr y (by simp)).1
      omega
    rw [if_pos (by simp <;> omega), e1, if_pos (nn _), if_pos e3, e2, order_any, Option.bind_some, decide_eq_false e4]
    exact hj
theorem right_l0 (l : List Bg) (hr : rtB l) (hl : l.length ≤ 1000) (suf : List Bg) : ∀ pre, l = pre ++ suf → Ev (fun k => large_Right.l0 k l l (l.length : Int) (pre.length : Int)) true := by
  induction suf with
  | nil =>
    intro pre e
    refine Ev.step1 (fun k => ?_)
    rw [large_Right.l0, if_neg (by rw [e]; simp)]
  | cons x suf ih =>
    intro pre e
    obtain ⟨K, h⟩ := ih (pre ++ [x]) (by rw [e]; simp)
    refine ⟨K + 4, fun k hk => ?_⟩
    obtain ⟨k, rfl⟩ : ∃ j, k = j + 4 := ⟨k - 4, by omega⟩
    have h := h (k + 2) (by omega)
    subst e
    dsimp only at h ⊢
    rw [right_step pre suf x hr hl _ rfl k]
    exact h
theorem right_ev {l : List Bg} (hr : rtB l) (hl : l.length ≤ 1000) : Ev (fun k => large_Right.f k l) true := by
  obtain ⟨K, h⟩ := right_l0 l hr hl l [] rfl
  exact ⟨K, fun k hk => by simpa [large_Right.f] using h k hk⟩
/-- What is taken: either there is none, or the first one of the class goes. -/
theorem takeR_cases (l : List Bg) (c : Int) : ((∀ x ∈ l, ¬ x.f1 = c) ∧ takeR l c = ([], 0, 2)) ∨ ∃ pre x suf, l = pre ++ x :: suf ∧ x.f1 = c ∧ (∀ y ∈ pre, ¬ y.f1 = c) ∧ takeR l c = (pre ++ suf, x.f0, 0) := by
  induction l with
  | nil => exact .inl ⟨by simp, rfl⟩
  | cons z l ih =>
    by_cases d : z.f1 = c
    · exact .inr ⟨[], z, l, rfl, d, by simp, by unfold takeR; rw [if_pos d]; rfl⟩
    · rcases ih with ⟨h1, h2⟩ | ⟨pre, x, suf, h1, h2, h3, h4⟩
      · refine .inl ⟨fun x hx => ?_, ?_⟩
        · rcases List.mem_cons.1 hx with rfl | hx
          · exact d
          · exact h1 x hx
        · unfold takeR; rw [if_neg d, h2]; rfl
      · refine .inr ⟨z :: pre, x, suf, by rw [h1]; rfl, h2, fun y hy => ?_, ?_⟩
        · rcases List.mem_cons.1 hy with rfl | hy
          · exact d
          · exact h3 y hy
        · unfold takeR; rw [if_neg d, h4]; rfl
/-- The end: nothing of the class is left. -/
theorem once_end {l m : List Bg} {b : Bg} (hr : rtB l) (hl : l.length ≤ 40) (hm : rtB m) (hml : m.length ≤ 1000) (hp : (putR l b).2 = 0) (ht : takeR m b.f1 = ([], 0, 2)) (last i : Int) (hi : i ≤ (l.length : Int) + 1) :
    Ev (fun k => rickyardlaw11_LargeOnce.l0 k l m last true i b.f0 b.f1) true := by
  obtain ⟨K, h⟩ := right_ev hm hml
  refine ⟨K + 1, fun k hk => ?_⟩
  obtain ⟨k, rfl⟩ : ∃ j, k = j + 1 := ⟨k - 1, by omega⟩
  have h := h k (by omega)
  dsimp only at h
  have e1 : wrap64 ((l.length : Int) + 1) = (l.length : Int) + 1 := w64 (by omega) (by omega)
  simp only [rickyardlaw11_LargeOnce.l0, e1]
  rw [if_pos hi, take_is m hml, ht, Option.bind_some, if_pos rfl, put_is hr (by omega), Option.bind_some, if_pos trivial, if_pos hp, h, Option.bind_some, if_pos rfl, awake_is]
  rfl
theorem once_step {l pre suf : List Bg} {x b : Bg} (hl : l.length ≤ 40) (hml : (pre ++ x :: suf).length ≤ 1000) (ht : takeR (pre ++ x :: suf) b.f1 = (pre ++ suf, x.f0, 0)) (last : Int) (hlast : ¬ x.f0 ≤ last) (met : Bool) (i : Int) (h0 : 0 ≤ i) (hi : i ≤ (l.length : Int) + 1) (k : Nat) :
    rickyardlaw11_LargeOnce.l0 (k + 1) l (pre ++ x :: suf) last met i b.f0 b.f1 = rickyardlaw11_LargeOnce.l0 k l (pre ++ suf) x.f0 (met || (x.f0 == b.f0)) (i + 1) b.f0 b.f1 := by
  have e1 : wrap64 ((l.length : Int) + 1) = (l.length : Int) + 1 := w64 (by omega) (by omega)
  have e2 : wrap64 (i + 1) = i + 1 := w64 (by omega) (by omega)
  have e3 : wrap64 (((pre ++ x :: suf).length : Int) - 1) = ((pre ++ suf).length : Int) := by
    rw [w64 (by simp; omega) (by omega)]; simp; omega
  simp only [rickyardlaw11_LargeOnce.l0, e1, e2, e3]
  rw [if_pos hi, take_is _ hml, ht, Option.bind_some, if_neg (by show ¬ (0 : Int) = 2; decide), if_pos rfl, if_neg hlast, if_pos rfl]
  cases met
  · rw [if_neg (by simp)]; rfl
  · rw [if_pos rfl]; rfl
theorem once_l0 {l : List Bg} {b : Bg} (hr : rtB l) (hl : l.length ≤ 40) (hp : (putR l b).2 = 0) : ∀ (n : Nat) (m : List Bg) (last : Int) (met : Bool) (i : Int), m.length = n → rtB m → 0 ≤ i → i + n = (l.length : Int) + 1 → (∀ x ∈ m, x.f1 = b.f1 → last < x.f0) → (met = true ∨ b ∈ m) →
    Ev (fun k => rickyardlaw11_LargeOnce.l0 k l m last met i b.f0 b.f1) true := by
  intro n
  induction n with
  | zero =>
    intro m last met i hn hm h0 hi hlast hmet
    have : m = [] := List.eq_nil_of_length_eq_zero hn
    subst this
    rcases hmet with rfl | h
    · exact once_end hr hl hm (by simp) hp rfl last i (by omega)
    · cases h
  | succ n ih =>
    intro m last met i hn hm h0 hi hlast hmet
    rcases takeR_cases m b.f1 with ⟨h1, h2⟩ | ⟨pre, x, suf, rfl, h2, h3, h4⟩
    · rcases hmet with rfl | h
      · exact once_end hr hl hm (by omega) hp h2 last i (by omega)
      · exact absurd rfl (h1 b h)
    · have hx := hlast x (by simp) h2
      have hsub : List.Sublist (pre ++ suf) (pre ++ x :: suf) := List.Sublist.append (List.Sublist.refl _) (List.sublist_cons_self x suf)
      have hm' := rtB_sub hsub hm
      have hxs : rtB (x :: suf) := rtB_sub (List.sublist_append_right pre (x :: suf)) hm
      have := ih (pre ++ suf) x.f0 (met || (x.f0 == b.f0)) (i + 1) (by simp at hn ⊢; omega) hm' (by omega) (by omega) (fun y hy hyc => by
          rcases List.mem_append.1 hy with hy | hy
          · exact absurd hyc (h3 y hy)
          · have := (hxs.2.1 y hy).1
            unfold ahd at this
            omega) (by
          rcases hmet with rfl | hb
          · left; rfl
          · rcases List.mem_append.1 hb with hb | hb
            · right; exact List.mem_append_left _ hb
            · rcases List.mem_cons.1 hb with rfl | hb
              · left; simp
              · right; exact List.mem_append_right _ hb)
      exact Ev.step (fun k => once_step hl (by omega) h4 last (by omega) met i h0 (by omega) k) this
theorem LargeOnce : rickyardlaw11_LargeOnce.Pure := by
  intro l0 a1 a2 hm hl h8 w1 w2
  obtain ⟨r, h1, hr, h40⟩ := made_ev h8 hl
  have hu := u8_of w1
  have hv := u8_of w2
  have e1 := mul64 hu
  have e2 := cls4 hv
  obtain ⟨b, hb0, hb1⟩ : ∃ b : Bg, b.f0 = a1 * 64 ∧ b.f1 = 4 + a2 % 4 := ⟨⟨a1 * 64, 4 + a2 % 4⟩, rfl, rfl⟩
  have hp := put_is hr (by omega) b
  by_cases c : (putR r b).2 = 0
  · obtain ⟨p1, p2, p3⟩ := putR_zero c
    have hil := ins_len b r
    have hir := ins_rt p1 hr p2
    obtain ⟨K1, h1⟩ := h1
    obtain ⟨K2, h2⟩ := once_l0 hr h40 c (ins b r).length (ins b r) (-1) false 0 rfl hir (by omega) (by omega) (fun x hx _ => by
      have := rtB_may hir hx
      obtain ⟨_, _, a3, _⟩ := this
      omega) (.inr (mem_ins.2 (.inl rfl)))
    refine ⟨K1 + K2, ?_⟩
    have h1 := h1 (K1 + K2) (by omega)
    have h2 := h2 (K1 + K2) (by omega)
    generalize K1 + K2 = k at h1 h2
    dsimp only at h1 h2
    simp only [rickyardlaw11_LargeOnce.f, e1, e2]
    rw [h1, Option.bind_some, ← hb0, ← hb1, hp, Option.bind_some, if_pos c, p3]
    exact h2
  · obtain ⟨K1, h1⟩ := h1
    refine ⟨K1, ?_⟩
    have h1 := h1 K1 (Nat.le_refl _)
    dsimp only at h1
    have hcl : 4 ≤ b.f1 ∧ b.f1 < 8 := by omega
    have hw := wd_big hcl.1 hcl.2
    have e3 : wrap64 (b.f0 + wd b.f1) = b.f0 + wd b.f1 := w64 (by omega) (by omega)
    simp only [rickyardlaw11_LargeOnce.f, e1, e2]
    rw [h1, Option.bind_some, ← hb0, ← hb1, hp, Option.bind_some, if_neg c]
    by_cases d : mayP b
    · have q : putR r b = ([], 4) := by
        unfold putR at c ⊢
        rw [if_pos d] at c ⊢
        by_cases d' : r.any (bigOver b) = true
        · rw [if_pos d']
        · rw [if_neg d'] at c
          exact absurd rfl c
      rw [q, if_pos rfl, awake_is]
      rfl
    · have q : putR r b = ([], 1) := by
        unfold putR
        rw [if_neg d]
      have hgt : b.f0 + wd b.f1 > 16384 := by
        have : ¬ (4 ≤ b.f1 ∧ b.f1 < 8 ∧ 0 ≤ b.f0 ∧ b.f0 % 64 = 0 ∧ b.f0 + wd b.f1 ≤ 16384) := d
        omega
      rw [q, if_neg (by decide), if_pos rfl, words_is, Option.bind_some, e3, if_pos hgt, awake_is]
      rfl
end Go.Proofs.Ytflhbakjlbmfbaa.Pure
