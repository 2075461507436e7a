/- LargeDrop: whatever numbers the stacks are made of, the answer is true: the plain statement. No memory and no program in it. -/
import Derived.Test.YtflhbakjlbmfbaaLargePure
import Derived.Test.YtflhbakjlbmfbaaPrx36
namespace Go.Proofs.Ytflhbakjlbmfbaa.Pure
set_option linter.unusedVariables false
set_option linter.unusedSimpArgs false
open Go.RowKit Go.Proofs.Ytflhbakjlbmfbaa.Pr Go.Proofs.YtflhbakjlbmfbaaW.PrintWords Go.Proofs.YtflhbakjlbmfbaaW.PrintLast Go.Proofs.YtflhbakjlbmfbaaW.PrintMore

/-- How many words all have. -/
def wsum : List Bg → Int
  | [] => 0
  | x :: l => wd x.f1 + wsum l
theorem wd_range (c : Int) : 0 ≤ wd c ∧ wd c ≤ 4096 := by
  have := wd_cases c
  omega
theorem wsum_range (l : List Bg) : 0 ≤ wsum l ∧ wsum l ≤ 4096 * (l.length : Int) := by
  induction l with
  | nil => simp [wsum]
  | cons x l ih =>
    have := wd_range x.f1
    simp only [wsum, List.length_cons]
    omega
theorem words_step (pre suf : List Bg) (x : Bg) (a : Int) (hl : (pre ++ x :: suf).length ≤ 1000) (h0 : 0 ≤ a) (ha : a ≤ 5000000) (n : Int) (hn : n = ((pre ++ x :: suf).length : Int)) (k : Nat) :
    large_Words.l0 (k + 1) a (pre ++ x :: suf) n (pre.length : Int) = large_Words.l0 k (a + wd x.f1) (pre ++ x :: suf) n ((pre ++ [x]).length : Int) := by
  have hp : pre.length < 9223372036854775807 := by simp at hl; omega
  have n1 := nxt pre x hp
  have c1 := mid_lt pre x suf
  have hw := wd_range x.f1
  have e1 : wrap64 (a + wd x.f1) = a + wd x.f1 := w64 (by omega) (by omega)
  have e2 : size_Words.f x.f1 = some (wd x.f1) := rfl
  simp only [large_Words.l0]
  rw [if_pos (by rw [hn]; exact c1), if_pos (nn _), if_pos c1, rd_mid, e2, Option.bind_some, e1, n1]
theorem words_l0 (suf : List Bg) : ∀ (pre : List Bg) (a : Int), (pre ++ suf).length ≤ 1000 → 0 ≤ a → a ≤ 4096 * (pre.length : Int) →
    Ev (fun k => large_Words.l0 k a (pre ++ suf) ((pre ++ suf).length : Int) (pre.length : Int)) (a + wsum suf) := by
  induction suf with
  | nil =>
    intro pre a h1 h2 h3
    refine Ev.eq (Ev.step1 (r := a) (fun k => ?_)) (by simp [wsum])
    simp only [large_Words.l0]
    rw [if_neg (by simp)]
  | cons x suf ih =>
    intro pre a h1 h2 h3
    have hw := wd_range x.f1
    have hp : pre.length ≤ 1000 := by simp at h1; omega
    have := ih (pre ++ [x]) (a + wd x.f1) (by simpa using h1) (by omega) (by simp; omega)
    rw [← snoc] at this
    exact Ev.eq (Ev.step (fun k => words_step pre suf x a h1 h2 (by omega) _ rfl k) this) (by simp only [wsum]; omega)
theorem words_ev (l : List Bg) (h : l.length ≤ 1000) : Ev (fun k => large_Words.f k l) (wsum l) := by
  have := words_l0 l [] 0 (by simpa using h) (by omega) (by simp)
  refine Ev.eq ?_ (Int.zero_add _)
  obtain ⟨K, hK⟩ := this
  exact ⟨K, fun k hk => by simpa [large_Words.f] using hK k hk⟩
theorem drop_step (x : Bg) (l : List Bg) (hl : (x :: l).length ≤ 1000) (b0 b1 : Int) (hb : b1 < x.f1 ∨ (b1 = x.f1 ∧ b0 ≤ x.f0)) (k : Nat) (n : Int) (hn : n = ((x :: l).length : Int))
    (w1 : large_Words.f k l = some (wsum l)) (w2 : large_Words.f k (x :: l) = some (wsum (x :: l))) :
    rickyardlaw11_LargeDrop.l0 (k + 1) (x :: l) n b0 b1 = rickyardlaw11_LargeDrop.l0 k l (l.length : Int) x.f0 x.f1 := by
  simp only [List.length_cons] at hl hn
  have e1 : wrap64 (n - 1) = (l.length : Int) := by rw [w64 (by omega) (by omega)]; omega
  have c1 : n > 0 := by omega
  have hr := wsum_range l
  have hw := wd_range x.f1
  have e2 : wrap64 (wsum l + wd x.f1) = wsum (x :: l) := by
    rw [w64 (by omega) (by omega)]
    simp only [wsum]; omega
  have c2 : ¬ x.f1 < b1 := by omega
  have c3 : x.f1 = b1 → ¬ x.f0 < b0 := by omega
  have hd := drop_is (x :: l) (by simp; omega)
  dsimp only at hd
  clear hb hr hw hn
  simp only [rickyardlaw11_LargeDrop.l0]
  rw [if_pos c1, hd, Option.bind_some, if_pos rfl, e1, if_pos rfl]
  dsimp only
  rw [if_neg c2]
  by_cases d : x.f1 = b1
  · rw [if_pos d, if_neg (c3 d), w1, Option.bind_some, words_is, Option.bind_some, w2, Option.bind_some, if_pos e2]
  · rw [if_neg d, w1, Option.bind_some, words_is, Option.bind_some, w2, Option.bind_some, if_pos e2]
theorem drop_l0 (l : List Bg) : ∀ (b0 b1 : Int), rtB l → l.length ≤ 1000 → (∀ x ∈ l, b1 < x.f1 ∨ (b1 = x.f1 ∧ b0 ≤ x.f0)) →
    Ev (fun k => rickyardlaw11_LargeDrop.l0 k l (l.length : Int) b0 b1) true := by
  induction l with
  | nil =>
    intro b0 b1 _ _ _
    obtain ⟨K, h⟩ := words_ev [] (by simp)
    refine ⟨K + 1, fun k hk => ?_⟩
    obtain ⟨k, rfl⟩ : ∃ j, k = j + 1 := ⟨k - 1, by omega⟩
    have h := h k (by omega)
    dsimp only at h
    simp only [rickyardlaw11_LargeDrop.l0]
    have hd : large_Drop.f [] = some ([], 0, 0, false) := rfl
    rw [if_neg (by simp), hd, Option.bind_some, h, awake_is]
    simp [wsum]
  | cons x l ih =>
    intro b0 b1 hr hl hb
    have hl' : l.length ≤ 1000 := by simp at hl; omega
    obtain ⟨K, h⟩ := ih x.f0 x.f1 hr.2.2 hl' (fun y hy => by
      have := (hr.2.1 y hy).1
      unfold ahd at this
      omega)
    obtain ⟨K1, w1⟩ := words_ev l hl'
    obtain ⟨K2, w2⟩ := words_ev (x :: l) hl
    refine ⟨K + K1 + K2 + 1, fun k hk => ?_⟩
    obtain ⟨k, rfl⟩ : ∃ j, k = j + 1 := ⟨k - 1, by omega⟩
    dsimp only
    rw [drop_step x l hl b0 b1 (hb x List.mem_cons_self) k _ rfl (w1 k (by omega)) (w2 k (by omega))]
    exact h k (by omega)
theorem LargeDrop : rickyardlaw11_LargeDrop.Pure := by
  intro l0 hm hl h8
  obtain ⟨r, h1, hr, h40⟩ := made_ev h8 hl
  obtain ⟨K1, h1⟩ := h1
  obtain ⟨K2, h2⟩ := drop_l0 r 0 0 hr (by omega) (fun x hx => by
    have := rtB_may hr hx
    obtain ⟨a1, _⟩ := this
    omega)
  refine ⟨K1 + K2, ?_⟩
  have h1 := h1 (K1 + K2) (by omega)
  have h2 := h2 (K1 + K2) (by omega)
  generalize K1 + K2 = k at h1 h2
  dsimp only at h1 h2
  simp only [rickyardlaw11_LargeDrop.f]
  rw [h1, Option.bind_some]
  exact h2
end Go.Proofs.Ytflhbakjlbmfbaa.Pure
