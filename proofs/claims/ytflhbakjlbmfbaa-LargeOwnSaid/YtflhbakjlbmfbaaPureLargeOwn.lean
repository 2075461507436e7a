/- LargeOwn: whatever numbers the stacks are made of, the answer is true: the plain statement. No memory and no program in it. -/
import Derived.Test.YtflhbakjlbmfbaaLargePure
import Derived.Test.YtflhbakjlbmfbaaPrx18
namespace Go.Proofs.Ytflhbakjlbmfbaa.Pure
set_option linter.unusedVariables false
set_option linter.unusedSimpArgs false
open Go.RowKit Go.Proofs.Ytflhbakjlbmfbaa.Pr Go.Proofs.YtflhbakjlbmfbaaW.PrintWords Go.Proofs.YtflhbakjlbmfbaaW.PrintLast Go.Proofs.YtflhbakjlbmfbaaW.PrintMore

/-- The end of the answer. -/
theorem own_j3 {l : List Bg} (hr : rtB l) (hl : l.length ≤ 40) {x1 : Int} (h1 : 0 ≤ x1 ∧ x1 ≤ 255) {c : Int} (hc : ¬ (4 ≤ c ∧ c < 8)) :
    Ev (fun k => rickyardlaw11_LargeOwn.j3 k x1 l l c) true := by
  obtain ⟨K, hs⟩ := same_ev l l (by omega)
  refine ⟨K + 1, fun k hk => ?_⟩
  obtain ⟨k, rfl⟩ : ∃ j, k = j + 1 := ⟨k - 1, by omega⟩
  have hs := hs k (by omega)
  have p1 := put_is hr (by omega) (⟨0, c⟩ : Bg)
  have p2 := put_is hr (by omega) (⟨x1 * 64 + 32, 4⟩ : Bg)
  have q1 : putR l (⟨0, c⟩ : Bg) = ([], 1) := by
    unfold putR; rw [if_neg]; rintro ⟨a1, a2, _⟩; exact hc ⟨a1, a2⟩
  have q2 : putR l (⟨x1 * 64 + 32, 4⟩ : Bg) = ([], 1) := by
    unfold putR; rw [if_neg]; rintro ⟨_, _, _, a4, _⟩; dsimp only at a4; omega
  rw [q1] at p1
  rw [q2] at p2
  have e0 := mul64 h1
  have e2 : wrap64 (x1 * 64 + 32) = x1 * 64 + 32 := w64 (by omega) (by omega)
  have t1 : takeR l c = ([], 0, 2) := takeR_none (fun x hx h => hc (by
    have := rtB_may hr hx
    rw [← h]
    exact ⟨this.1, this.2.1⟩))
  dsimp only at p1 p2 hs
  simp only [rickyardlaw11_LargeOwn.j3, e0, e2]
  rw [take_is l (by omega), t1, Option.bind_some, p1, Option.bind_some, p2, Option.bind_some, hs, Option.bind_some, if_pos (by simp), if_pos rfl, if_pos rfl, if_pos rfl, awake_is]
  rfl
theorem own_tail {l : List Bg} (hr : rtB l) (hl : l.length ≤ 40) {x1 x2 : Int} (h1 : 0 ≤ x1 ∧ x1 ≤ 255) (h2 : -9223372036854775808 ≤ x2 ∧ x2 ≤ 9223372036854775807) (i : Int) :
    Ev (fun k => rickyardlaw11_LargeOwn.j1 k x1 x2 l l i false) true := by
  by_cases c : x2 ≥ 4
  · by_cases d : x2 ≤ 7
    · have e : wrap64 (x2 - 4) = x2 - 4 := w64 (by omega) (by omega)
      obtain ⟨K, h⟩ := own_j3 hr hl h1 (c := x2 - 4) (by omega)
      refine ⟨K + 2, fun k hk => ?_⟩
      obtain ⟨k, rfl⟩ : ∃ j, k = j + 2 := ⟨k - 2, by omega⟩
      simp only [rickyardlaw11_LargeOwn.j1, rickyardlaw11_LargeOwn.j2, e]
      rw [if_neg (by simp), if_pos c, decide_eq_true d, if_pos rfl]
      exact h k (by omega)
    · obtain ⟨K, h⟩ := own_j3 hr hl h1 (c := x2) (by omega)
      refine ⟨K + 2, fun k hk => ?_⟩
      obtain ⟨k, rfl⟩ : ∃ j, k = j + 2 := ⟨k - 2, by omega⟩
      simp only [rickyardlaw11_LargeOwn.j1, rickyardlaw11_LargeOwn.j2]
      rw [if_neg (by simp), if_pos c, decide_eq_false d, if_neg (by simp)]
      exact h k (by omega)
  · obtain ⟨K, h⟩ := own_j3 hr hl h1 (c := x2) (by omega)
    refine ⟨K + 2, fun k hk => ?_⟩
    obtain ⟨k, rfl⟩ : ∃ j, k = j + 2 := ⟨k - 2, by omega⟩
    simp only [rickyardlaw11_LargeOwn.j1, rickyardlaw11_LargeOwn.j2]
    rw [if_neg (by simp), if_neg c, if_neg (by simp)]
    exact h k (by omega)
theorem put_over {l : List Bg} {x b : Bg} (hr : rtB l) (hx : x ∈ l) (h : mayP b → b.f0 < x.f0 + wd x.f1 ∧ x.f0 < b.f0 + wd b.f1) : (mayP b → (putR l b).2 = 4) ∧ (¬ mayP b → (putR l b).2 = 1) := by
  constructor
  · intro hb
    unfold putR
    rw [if_pos hb, if_pos (List.any_eq_true.2 ⟨x, hx, (bov_is (rtB_may hr hx) hb).2 ⟨(h hb).2, (h hb).1⟩⟩)]
  · intro hb
    unfold putR
    rw [if_neg hb]
theorem own_step {l : List Bg} (hr : rtB l) (hl : l.length ≤ 40) (x1 x2 : Int) (pre suf : List Bg) (x : Bg) (e : l = pre ++ x :: suf) (h8 : pre.length < 8) (k : Nat) :
    rickyardlaw11_LargeOwn.l0 (k + 2) x1 x2 l l (pre.length : Int) = rickyardlaw11_LargeOwn.l0 k x1 x2 l l ((pre ++ [x]).length : Int) := by
  have hx : x ∈ l := by rw [e]; simp
  have hm := rtB_may hr hx
  obtain ⟨a1, a2, a3, a4, a5⟩ := hm
  have hw := wd_big a1 a2
  have e1 : wrap64 (x.f0 + wd x.f1) = x.f0 + wd x.f1 := w64 (by omega) (by omega)
  have e2 : wrap64 (x.f0 + wd x.f1 - 64) = x.f0 + wd x.f1 - 64 := w64 (by omega) (by omega)
  have w4 : wd 4 = 512 := by decide
  have p1 := put_is hr (by omega) (⟨x.f0, 4⟩ : Bg)
  have p2 := put_is hr (by omega) (⟨x.f0 + wd x.f1 - 64, 4⟩ : Bg)
  have m1 : mayP (⟨x.f0, 4⟩ : Bg) := ⟨Int.le_refl 4, by show (4 : Int) < 8; decide, a3, a4, by show x.f0 + wd 4 ≤ 16384; omega⟩
  have q1 := (put_over (b := ⟨x.f0, 4⟩) hr hx (fun _ => by dsimp only; omega)).1 m1
  have q2 := put_over (b := ⟨x.f0 + wd x.f1 - 64, 4⟩) hr hx (fun _ => by dsimp only; omega)
  have r1 : rd_T29 l (pre.length : Int) = x := by rw [e]; exact rd_mid pre x suf
  have c1 : (pre.length : Int) < (l.length : Int) := by rw [e]; exact mid_lt pre x suf
  have c2 : decide ((pre.length : Int) < 8) = true := decide_eq_true (by omega)
  have c3 := nn pre.length
  have n1 := nxt pre x (by omega)
  dsimp only at p1 p2
  have hw1 := words_is x.f1
  clear a1 a2 a3 a4 a5 hw w4 m1 hx e
  simp only [rickyardlaw11_LargeOwn.l0, rickyardlaw11_LargeOwn.j1, r1, n1]
  rw [if_pos c1, c2, if_pos rfl, if_pos c3, if_pos c1, p1, Option.bind_some, hw1, Option.bind_some, e1, e2, p2, Option.bind_some, q1, if_pos rfl]
  by_cases d : mayP (⟨x.f0 + wd x.f1 - 64, 4⟩ : Bg)
  · rw [q2.1 d, if_pos rfl]
  · rw [q2.2 d, if_neg (by decide), if_pos rfl]
theorem own_l0 {l : List Bg} (hr : rtB l) (hl : l.length ≤ 40) {x1 x2 : Int} (h1 : 0 ≤ x1 ∧ x1 ≤ 255) (h2 : -9223372036854775808 ≤ x2 ∧ x2 ≤ 9223372036854775807) (suf : List Bg) : ∀ (pre : List Bg), l = pre ++ suf →
    Ev (fun k => rickyardlaw11_LargeOwn.l0 k x1 x2 l l (pre.length : Int)) true := by
  induction suf with
  | nil =>
    intro pre e
    refine Ev.step (fun k => ?_) (own_tail hr hl h1 h2 (pre.length : Int))
    simp only [rickyardlaw11_LargeOwn.l0]
    rw [if_neg (by rw [e]; simp)]
  | cons x suf ih =>
    intro pre e
    by_cases c : pre.length < 8
    · obtain ⟨K, h⟩ := ih (pre ++ [x]) (by rw [e]; simp)
      refine ⟨K + 2, fun k hk => ?_⟩
      obtain ⟨k, rfl⟩ : ∃ j, k = j + 2 := ⟨k - 2, by omega⟩
      dsimp only
      rw [own_step hr hl x1 x2 pre suf x e c k]
      exact h k (by omega)
    · refine Ev.step (fun k => ?_) (own_tail hr hl h1 h2 (pre.length : Int))
      simp only [rickyardlaw11_LargeOwn.l0]
      rw [if_pos (by rw [e]; exact mid_lt pre x suf), decide_eq_false (by omega)]
theorem LargeOwn : rickyardlaw11_LargeOwn.Pure := by
  intro l0 a1 a2 hm hl h8 w1 w2
  obtain ⟨r, h1, hr, h40⟩ := made_ev h8 hl
  have hu := u8_of w1
  have hi := i64_of w2
  obtain ⟨K1, h1⟩ := h1
  obtain ⟨K2, h2⟩ := own_l0 hr h40 hu hi r [] rfl
  refine ⟨K1 + K2, ?_⟩
  have h1 := h1 (K1 + K2) (by omega)
  have h2 := h2 (K1 + K2) (by omega)
  generalize K1 + K2 = k at h1 h2
  have e0 := mul64 hu
  have p1 := put_is hr (by omega) (⟨a1 * 64, 4⟩ : Bg)
  dsimp only at p1 h1
  simp only [rickyardlaw11_LargeOwn.f, e0]
  rw [h1, Option.bind_some, Option.bind_some, p1, Option.bind_some, take_is r (by omega), Option.bind_some, drop_is r (by omega), Option.bind_some]
  exact h2
end Go.Proofs.Ytflhbakjlbmfbaa.Pure
