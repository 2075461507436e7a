/- LargeAll: whatever large stacks and numbers come in, the answer is true: the plain statement. No memory and no program in it. -/
import Derived.Test.YtflhbakjlbmfbaaLargePure
import Derived.Test.YtflhbakjlbmfbaaPrx33
import Derived.Test.YtflhbakjlbmfbaaPrx42
import Derived.Test.YtflhbakjlbmfbaaPrx43
import Derived.Test.YtflhbakjlbmfbaaPrx45
namespace Go.Proofs.Ytflhbakjlbmfbaa.Pure
set_option linter.unusedVariables false
set_option linter.unusedSimpArgs false
open Go.RowKit Go.Proofs.Ytflhbakjlbmfbaa.Pr Go.Proofs.YtflhbakjlbmfbaaW.PrintWords Go.Proofs.YtflhbakjlbmfbaaW.PrintLast Go.Proofs.YtflhbakjlbmfbaaW.PrintMore

theorem rtB_mid {pre suf : List Bg} {x : Bg} (h : rtB (pre ++ x :: suf)) : ∀ y ∈ pre, ahd y x ∧ bigOver x y = false := by
 induction pre with
 | nil => simp
 | cons z pre ih =>
  intro y hy
  rcases List.mem_cons.1 hy with rfl | hy
  ·exact h.2.1 x (by simp)
  ·exact ih h.2.2 y hy
theorem order_any (k : Nat) (x b : Bg) : large_order.f (k + 3) x.f0 x.f1 b.f0 b.f1 = some (bigOrder b x) := by
 rw [large_order.f, compare_is, Option.bind_some, compare_is, Option.bind_some, or_is k, Option.bind_some]
 unfold bigOrder
 simp only [Option.some.injEq]
 by_cases c1 : x.f1 < b.f1
 ·simp [c1]
 ·by_cases c2 : x.f1 > b.f1
  ·simp [c1, c2]
  ·simp [c1, c2]
/-- Whether the rest of a list is right, behind what stands ahead. -/
def rb2 : List Bg → List Bg → Bool
 | _, [] => true
 | pre, x :: suf => decide (mayP x) && ((match pre.getLast? with | none => true | some y => decide (ahd y x)) && (!pre.any (bigOver x) && rb2 (pre ++ [x]) suf))
theorem idx_prev (q : List Bg) (y : Bg) (h : (q ++ [y]).length ≤ 1000) : wrap64 (((q ++ [y]).length : Int) - 1) = (q.length : Int) := by
 simp at h
 rw [w64 (by simp <;> omega) (by simp <;> omega)]
 simp
theorem rd_prev (q suf : List Bg) (y : Bg) : rd_T29 (q ++ [y] ++ suf) (q.length : Int) = y := by
 rw [List.append_assoc]
 exact rd_mid q y suf
theorem last_snoc (q : List Bg) (y : Bg) : (q ++ [y]).getLast? = some y := by simp
/-- Right: the arm behind the first two tests. -/
theorem right_j1f (pre suf : List Bg) (x : Bg) (hl : (pre ++ x :: suf).length ≤ 1000) (n : Int) (k : Nat) :
  large_Right.j1 (k + 1) (pre ++ x :: suf) (pre.length : Int) (pre ++ x :: suf) n (pre.length : Int) false x.f0 x.f1 = if pre.any (bigOver x) = true then some false else large_Right.l0 k (pre ++ x :: suf) (pre ++ x :: suf) n ((pre ++ [x]).length : Int) := by
 have hp : pre.length < 9223372036854775807 := by simp at hl; omega
 have n1 := nxt pre x hp
 have c1 : (pre.length : Int) ≤ ((pre ++ x :: suf).length : Int) := by have := mid_lt pre x suf; omega
 have c2 : (pre ++ x :: suf).take ((pre.length : Int).toNat) = pre := by simp
 have c4 : pre.length ≤ 17592186044416 := by simp at hl; omega
 have hx : (⟨x.f0, x.f1⟩ : Bg) = x := rfl
 simp only [large_Right.j1, n1]
 rw [if_neg (by simp), if_pos (nn _), if_pos c1, c2]
 unfold api_Big_40_61.f
 rw [if_pos c4, Option.bind_some, hx]
theorem right_j1t (l : List Bg) (i n j : Int) (x : Bg) (k : Nat) : large_Right.j1 (k + 1) l i l n j true x.f0 x.f1 = some false := by
 simp only [large_Right.j1]
 rw [if_pos trivial]
theorem right_head (pre suf : List Bg) (x : Bg) (hl : (pre ++ x :: suf).length ≤ 1000) (n : Int) (hn : n = ((pre ++ x :: suf).length : Int)) (k : Nat) :
  large_Right.l0 (k + 4) (pre ++ x :: suf) (pre ++ x :: suf) n (pre.length : Int) = large_Right.j1 (k + 3) (pre ++ x :: suf) (pre.length : Int) (pre ++ x :: suf) n (pre.length : Int) (!(decide (mayP x) && (match pre.getLast? with | none => true | some y => decide (ahd y x)))) x.f0 x.f1 := by
 have c1 := mid_lt pre x suf
 have hx : (⟨x.f0, x.f1⟩ : Bg) = x := rfl
 rw [large_Right.l0, if_pos (by rw [hn]; exact c1), if_pos (nn _), if_pos c1, rd_mid, may_is, Option.bind_some, hx]
 by_cases m : mayP x
 ·rw [decide_eq_true m, if_pos rfl]
  rcases List.eq_nil_or_concat pre with rfl | ⟨p, y, rfl⟩
  ·rw [if_neg (by simp)]
   rfl
  ·simp only [List.concat_eq_append] at hl hn c1 ⊢
   have hp : (p ++ [y]).length ≤ 1000 := by simp at hl ⊢; omega
   have e1 := idx_prev p y hp
   have e2 := rd_prev p (x :: suf) y
   have e3 : (p.length : Int) < ((p ++ [y] ++ x :: suf).length : Int) := by simp <;> omega
   rw [if_pos (by simp <;> omega), e1, if_pos (nn _), if_pos e3, e2, order_any, Option.bind_some, last_snoc]
   dsimp only
   have := order_ahd x y
   by_cases o : ahd y x
   ·rw [decide_eq_true o, decide_eq_false (by have := this.2 o; omega)]; rfl
   ·have o2 : bigOrder x y ≥ 0 := by
     by_cases z : bigOrder x y < 0
     ·exact absurd (this.1 z) o
     ·omega
    rw [decide_eq_false o, decide_eq_true o2]; rfl
 ·rw [decide_eq_false m, if_neg (by simp)]
  rfl
theorem right_l0 (suf : List Bg) : ∀ pre : List Bg, (pre ++ suf).length ≤ 1000 → Ev (fun k => large_Right.l0 k (pre ++ suf) (pre ++ suf) ((pre ++ suf).length : Int) (pre.length : Int)) (rb2 pre suf) := by
 induction suf with
 | nil =>
  intro pre h
  refine Ev.eq (r := true) (Ev.step1 (fun k => ?_)) (by unfold rb2; rfl)
  rw [large_Right.l0, if_neg (end_nlt pre)]
 | cons x suf ih =>
  intro pre h
  obtain ⟨K, hK⟩ := ih (pre ++ [x]) (by simpa using h)
  rw [← snoc] at hK
  refine ⟨K + 4, fun k hk => ?_⟩
  obtain ⟨k, rfl⟩ : ∃ j, k = j + 4 := ⟨k - 4, by omega⟩
  have hK := hK (k + 2) (by omega)
  dsimp only at hK ⊢
  rw [right_head pre suf x h _ rfl k]
  unfold rb2
  cases hc : (decide (mayP x) && (match pre.getLast? with | none => true | some y => decide (ahd y x))) with
  | false =>
   rw [Bool.and_eq_false_iff] at hc
   rw [show (!false) = true from rfl, right_j1t]
   rcases hc with hc | hc <;> simp [hc]
  | true =>
   rw [Bool.and_eq_true] at hc
   rw [show (!true) = false from rfl, right_j1f pre suf x h _ (k + 2)]
   by_cases d : pre.any (bigOver x) = true
   ·rw [if_pos d, d]; simp
   ·have d' : pre.any (bigOver x) = false := by simpa using d
    rw [if_neg d, hK, hc.1, hc.2, d']
    rfl
theorem right_ev (l : List Bg) (hl : l.length ≤ 1000) : Ev (fun k => large_Right.f k l) (rb2 [] l) := by
 obtain ⟨K, h⟩ := right_l0 l [] (by simpa using hl)
 exact ⟨K, fun k hk => by simpa [large_Right.f] using h k hk⟩
/-- The document's: the inner walk. -/
theorem rr_l1 (l : List Bg) (x : Bg) (n : Nat) (hn : n < l.length) (hx : rd_T29 l (n : Int) = x) (hl : l.length ≤ 1000) (r : Bool) (hr : Ev (fun k => rickyardref9_RightBig.l0 k l ((n : Int) + 1)) r) (m2 : List Bg) : ∀ m1 : List Bg, l.take n = m1 ++ m2 → Ev (fun k => rickyardref9_RightBig.l1 k l (n : Int) (m1.length : Int)) (!m2.any (bigOver x) && r) := by
 induction m2 with
 | nil =>
  intro m1 e
  have h1 : m1.length = n := by
   have := congrArg List.length e
   simp at this
   omega
  have e2 : wrap64 ((n : Int) + 1) = (n : Int) + 1 := w64 (by omega) (by omega)
  refine Ev.eq (Ev.step (fun k => ?_) hr) (by simp)
  simp only [rickyardref9_RightBig.l1]
  rw [h1, if_neg (Int.lt_irrefl _), e2]
 | cons y m2 ih =>
  intro m1 e
  have h1 : m1.length + m2.length + 1 = n := by
   have := congrArg List.length e
   simp at this
   omega
  have e1 : rd_T29 l (m1.length : Int) = y := by
   have : l = m1 ++ y :: (m2 ++ l.drop n) := by
    rw [← List.cons_append, ← List.append_assoc, ← e, List.take_append_drop]
   rw [this]
   exact rd_mid m1 y _
  have e2 : wrap64 ((m1.length : Int) + 1) = ((m1 ++ [y]).length : Int) := nxt m1 y (by omega)
  have c1 : (m1.length : Int) < (n : Int) := by omega
  have c2 : (m1.length : Int) < (l.length : Int) := by omega
  have c3 : (n : Int) < (l.length : Int) := by omega
  have := ih (m1 ++ [y]) (by rw [e]; simp)
  by_cases d : bigOver x y = true
  ·refine Ev.eq (r := false) (Ev.step1 (fun k => ?_)) (by simp [d])
   simp only [rickyardref9_RightBig.l1]
   rw [if_pos c1, if_pos (nn _), if_pos c2, if_pos (nn _), if_pos c3, e1, hx, overBig_is, Option.bind_some, if_pos d]
  ·refine Ev.eq (Ev.step (fun k => ?_) this) (by simp [d])
   simp only [rickyardref9_RightBig.l1]
   rw [if_pos c1, if_pos (nn _), if_pos c2, if_pos (nn _), if_pos c3, e1, hx, overBig_is, Option.bind_some, if_neg d, e2]
theorem rr_head (pre suf : List Bg) (x : Bg) (hl : (pre ++ x :: suf).length ≤ 1000) (k : Nat) :
  rickyardref9_RightBig.l0 (k + 1) (pre ++ x :: suf) (pre.length : Int) = rickyardref9_RightBig.j1 k (pre ++ x :: suf) (pre.length : Int) (!(decide (mayP x) && (match pre.getLast? with | none => true | some y => decide (ahd y x)))) := by
 have c1 := mid_lt pre x suf
 have hx : (⟨x.f0, x.f1⟩ : Bg) = x := rfl
 rw [rickyardref9_RightBig.l0, if_pos c1, if_pos (nn _), rd_mid, maybig_is, Option.bind_some, hx]
 by_cases m : mayP x
 ·rw [decide_eq_true m, if_pos rfl]
  rcases List.eq_nil_or_concat pre with rfl | ⟨p, y, rfl⟩
  ·rw [if_neg (by simp)]
   rfl
  ·simp only [List.concat_eq_append] at hl c1 ⊢
   have hp : (p ++ [y]).length ≤ 1000 := by simp at hl ⊢; omega
   have e1 := idx_prev p y hp
   have e2 := rd_prev p (x :: suf) y
   have e3 : (p.length : Int) < ((p ++ [y] ++ x :: suf).length : Int) := by simp <;> omega
   rw [if_pos (by simp <;> omega), e1, if_pos (nn _), if_pos e3, e2, ahead_is, Option.bind_some, last_snoc]
   rfl
 ·rw [decide_eq_false m, if_neg (by simp)]
  rfl
theorem rr_l0 (suf : List Bg) : ∀ pre : List Bg, (pre ++ suf).length ≤ 1000 → Ev (fun k => rickyardref9_RightBig.l0 k (pre ++ suf) (pre.length : Int)) (rb2 pre suf) := by
 induction suf with
 | nil =>
  intro pre h
  refine Ev.eq (r := true) (Ev.step1 (fun k => ?_)) (by unfold rb2; rfl)
  rw [rickyardref9_RightBig.l0, if_neg (end_nlt pre)]
 | cons x suf ih =>
  intro pre h
  have hi := ih (pre ++ [x]) (by simpa using h)
  rw [← snoc] at hi
  have hi2 : Ev (fun k => rickyardref9_RightBig.l0 k (pre ++ x :: suf) ((pre.length : Int) + 1)) (rb2 (pre ++ [x]) suf) := by
   have e : (((pre ++ [x]).length : Nat) : Int) = (pre.length : Int) + 1 := by simp
   rw [← e]; exact hi
  have hw := rr_l1 (pre ++ x :: suf) x pre.length (by simp) (rd_mid pre x suf) h _ hi2 pre [] (by simp)
  refine Ev.step (fun k => rr_head pre suf x h k) ?_
  unfold rb2
  cases hc : (decide (mayP x) && (match pre.getLast? with | none => true | some y => decide (ahd y x))) with
  | false =>
   rw [Bool.and_eq_false_iff] at hc
   refine Ev.eq (r := false) (Ev.step1 (fun k => ?_)) (by rcases hc with hc | hc <;> simp [hc])
   rw [rickyardref9_RightBig.j1, if_pos (show (!false) = true from rfl)]
  | true =>
   rw [Bool.and_eq_true] at hc
   refine Ev.eq (Ev.step (fun k => ?_) hw) (by rw [hc.1, hc.2]; rfl)
   rw [rickyardref9_RightBig.j1, if_neg (by simp)]
   rfl
theorem rright_ev (l : List Bg) (hl : l.length ≤ 1000) : Ev (fun k => rickyardref9_RightBig.f k l) (rb2 [] l) := by
 obtain ⟨K, h⟩ := rr_l0 l [] (by simpa using hl)
 exact ⟨K, fun k hk => by simpa [rickyardref9_RightBig.f] using h k hk⟩
theorem rtB_snoc {pre : List Bg} {x : Bg} (h : rtB pre) (hx : mayP x) (hp : ∀ y ∈ pre, ahd y x ∧ bigOver x y = false) : rtB (pre ++ [x]) := by
 induction pre with
 | nil => exact ⟨hx, by simp, trivial⟩
 | cons z pre ih =>
  refine ⟨h.1, fun y hy => ?_, ih h.2.2 (fun y hy => hp y (List.mem_cons_of_mem _ hy))⟩
  rcases List.mem_append.1 hy with hy | hy
  ·exact h.2.1 y hy
  ·rcases List.mem_singleton.1 hy with rfl
   exact hp z List.mem_cons_self
theorem rb2_rt (suf : List Bg) : ∀ pre : List Bg, rtB pre → rb2 pre suf = true → rtB (pre ++ suf) := by
 induction suf with
 | nil => intro pre h _; simpa using h
 | cons x suf ih =>
  intro pre h hb
  unfold rb2 at hb
  simp only [Bool.and_eq_true, decide_eq_true_eq, Bool.not_eq_true'] at hb
  obtain ⟨h1, h2, h3, h4⟩ := hb
  have h3' : ∀ y ∈ pre, bigOver x y = false := by
   intro y hy
   have := (List.any_eq_false.1 h3) y hy
   simpa using this
  rw [snoc]
  refine ih (pre ++ [x]) (rtB_snoc h h1 (fun y hy => ⟨?_, h3' y hy⟩)) h4
  rcases List.eq_nil_or_concat pre with rfl | ⟨q, z, rfl⟩
  ·cases hy
  ·simp only [List.concat_eq_append] at h h2 hy
   rw [last_snoc] at h2
   have hz : ahd z x := of_decide_eq_true h2
   rcases List.mem_append.1 hy with hy | hy
   ·exact ahd_trans (rtB_mid (suf := []) h y hy).1 hz
   ·rcases List.mem_singleton.1 hy with rfl
    exact hz
/-- The document's take. -/
theorem rtake_l0 (c : Int) (suf : List Bg) : ∀ pre : List Bg, (∀ y ∈ pre, ¬ y.f1 = c) → (pre ++ suf).length ≤ 1000 → Ev (fun k => rickyardref9_TakeBig.l0 k (pre ++ suf) c (pre.length : Int)) (takeR (pre ++ suf) c) := by
 induction suf with
 | nil =>
  intro pre h hl
  rw [takeR_none (by simpa using h)]
  refine Ev.step1 (fun k => ?_)
  rw [rickyardref9_TakeBig.l0, if_neg (end_nlt pre)]
 | cons x suf ih =>
  intro pre h hl
  have hp : pre.length + suf.length ≤ 999 := by simp at hl; omega
  have n1 := nxt pre x (by omega)
  by_cases d : x.f1 = c
  ·rw [takeR_some pre.length (by simp) (by simpa using d) (fun i hi => by
    rw [List.getElem_append_left hi]
    exact h _ (List.getElem_mem hi))]
   refine Ev.step1 (fun k => ?_)
   have e1 : wrap64 ((pre.length : Int) + 1) = (pre.length : Int) + 1 := w64 (by omega) (by omega)
   have c2 : (pre.length : Int) ≤ ((pre ++ x :: suf).length : Int) := by have := mid_lt pre x suf; omega
   have c3 : (0 : Int) ≤ (pre.length : Int) + 1 := by omega
   have c4 : (pre.length : Int) + 1 ≤ ((pre ++ x :: suf).length : Int) := by have := mid_lt pre x suf; omega
   have e2 : ((pre.length : Int) + 1).toNat = pre.length + 1 := by omega
   rw [rickyardref9_TakeBig.l0, if_pos (mid_lt pre x suf), if_pos (nn _), rd_mid, if_pos d, Option.bind_some, if_pos c2, Option.bind_some, if_pos (by simp; omega), Option.bind_some, e1, if_pos c3, if_pos c4, Option.bind_some, if_pos (by simp; omega), e2]
   simp
  ·have := ih (pre ++ [x]) (fun y hy => by
    rcases List.mem_append.1 hy with hy | hy
    ·exact h y hy
    ·rcases List.mem_singleton.1 hy with rfl; exact d) (by simpa using hl)
   rw [← snoc] at this
   refine Ev.step (fun k => ?_) this
   rw [rickyardref9_TakeBig.l0, if_pos (mid_lt pre x suf), if_pos (nn _), rd_mid, if_neg d, n1]
theorem rtake_ev (l : List Bg) (hl : l.length ≤ 1000) (c : Int) : Ev (fun k => rickyardref9_TakeBig.f k l c) (takeR l c) := by
 obtain ⟨K, h⟩ := rtake_l0 c l [] (by simp) (by simpa using hl)
 exact ⟨K, fun k hk => by simpa [rickyardref9_TakeBig.f] using h k hk⟩
theorem rdrop_is (l : List Bg) (hl : l.length ≤ 1000) : rickyardref9_DropBig.f l = large_Drop.f l := by
 rw [drop_is l hl]
 unfold rickyardref9_DropBig.f
 cases l with
 | nil => rfl
 | cons x m =>
  simp only [List.length_cons] at hl
  simp only [List.length_cons, List.drop_one, List.tail_cons, Option.bind_some, List.nil_append, List.length_nil]
  rw [if_neg (by omega), if_pos (by omega), if_pos (by omega), if_pos (by omega)]
  simp [rd_T29]
/-- How many words all have. -/
def wsum : List Bg → Int
 | [] => 0
 | x :: l => wd x.f1 + wsum l
theorem wd_range (c : Int) : 0 ≤ wd c ∧ wd c ≤ 4096 := by
 have := wd_cases c
 omega
theorem words_l0 (suf : List Bg) : ∀ (pre : List Bg) (a : Int), (pre ++ suf).length ≤ 1000 → 0 ≤ a → a ≤ 4096 * (pre.length : Int) →
  Ev (fun k => large_Words.l0 k a (pre ++ suf) ((pre ++ suf).length : Int) (pre.length : Int)) (a + wsum suf) ∧ Ev (fun k => rickyardref9_WordsBig.l0 k (pre ++ suf) a (pre.length : Int)) (a + wsum suf) := by
 induction suf with
 | nil =>
  intro pre a h1 h2 h3
  constructor
  ·refine Ev.eq (Ev.step1 (r := a) (fun k => ?_)) (by simp [wsum])
   rw [large_Words.l0, if_neg (end_nlt pre)]
  ·refine Ev.eq (Ev.step1 (r := a) (fun k => ?_)) (by simp [wsum])
   rw [rickyardref9_WordsBig.l0, if_neg (end_nlt pre)]
 | cons x suf ih =>
  intro pre a h1 h2 h3
  have hw := wd_range x.f1
  have hp : pre.length ≤ 1000 := by simp at h1; omega
  have this := ih (pre ++ [x]) (a + wd x.f1) (by simpa using h1) (by omega) (by simp; omega)
  rw [← snoc] at this
  have n1 := nxt pre x (by omega)
  have c1 := mid_lt pre x suf
  have e1 : wrap64 (a + wd x.f1) = a + wd x.f1 := w64 (by omega) (by omega)
  have e2 : size_Words.f x.f1 = some (wd x.f1) := rfl
  have e3 := words_is x.f1
  have es : a + wd x.f1 + wsum suf = a + wsum (x :: suf) := by simp only [wsum]; omega
  constructor
  ·refine Ev.eq (Ev.step (fun k => ?_) this.1) es
   rw [large_Words.l0, if_pos c1, if_pos (nn _), if_pos c1, rd_mid, e2, Option.bind_some, e1, n1]
  ·refine Ev.eq (Ev.step (fun k => ?_) this.2) es
   rw [rickyardref9_WordsBig.l0, if_pos c1, if_pos (nn _), rd_mid, e3, Option.bind_some, e1, n1]
theorem words_ev (l : List Bg) (h : l.length ≤ 1000) : Ev (fun k => large_Words.f k l) (wsum l) ∧ Ev (fun k => rickyardref9_WordsBig.f k l) (wsum l) := by
 obtain ⟨⟨K1, h1⟩, ⟨K2, h2⟩⟩ := words_l0 l [] 0 (by simpa using h) (by omega) (by simp)
 exact ⟨⟨K1, fun k hk => by simpa [large_Words.f] using h1 k hk⟩, ⟨K2, fun k hk => by simpa [rickyardref9_WordsBig.f] using h2 k hk⟩⟩
theorem putR_len (l : List Bg) (b : Bg) (hl : l.length ≤ 1000) : (putR l b).1.length ≤ 1001 := by
 unfold putR
 have := ins_len b l
 split
 ·split
  ·simp
  ·simp only; omega
 ·simp
theorem takeR_len (l : List Bg) (c : Int) : (takeR l c).1.length ≤ l.length := by
 induction l with
 | nil => simp [takeR]
 | cons x l ih =>
  unfold takeR
  split
  ·simp
  ·split
   ·simp; exact ih
   ·simp
theorem same_all {l : List Bg} (hr : rtB l) (hl : l.length ≤ 1000) (b : Bg) (c : Int) : Ev (fun k => rickyardlaw11_same.f k l b.f0 b.f1 c) true := by
 have p1 := put_is hr hl b
 obtain ⟨K1, h1⟩ := putBig_ev hr hl b
 have p2 := take_is l hl c
 obtain ⟨K2, h2⟩ := rtake_ev l hl c
 have p4 := rdrop_is l hl
 obtain ⟨D, p3, hD⟩ : ∃ D, large_Drop.f l = some D ∧ D.1.length ≤ 1000 := by
  refine ⟨_, drop_is l hl, ?_⟩
  cases l with
  | nil => simp
  | cons x m => simp at hl ⊢; omega
 rw [p3] at p4
 have hP := putR_len l b hl
 have hT := takeR_len l c
 obtain ⟨P, eP⟩ : ∃ P, P = putR l b := ⟨_, rfl⟩
 obtain ⟨Q, eQ⟩ : ∃ Q, Q = takeR l c := ⟨_, rfl⟩
 rw [← eP] at p1 h1 hP
 rw [← eQ] at p2 h2 hT
 obtain ⟨K3, h3⟩ := same_ev P.1 P.1 (by omega)
 obtain ⟨K4, h4⟩ := same_ev Q.1 Q.1 (by omega)
 obtain ⟨K5, h5⟩ := same_ev D.1 D.1 (by omega)
 obtain ⟨⟨K6, h6⟩, ⟨K7, h7⟩⟩ := words_ev l hl
 refine ⟨K1 + K2 + K3 + K4 + K5 + K6 + K7, fun k hk => ?_⟩
 have h1 := h1 k (by omega)
 have h2 := h2 k (by omega)
 have h3 := h3 k (by omega)
 have h4 := h4 k (by omega)
 have h5 := h5 k (by omega)
 have h6 := h6 k (by omega)
 have h7 := h7 k (by omega)
 clear hk
 dsimp only at h1 h2 h3 h4 h5 h6 h7 ⊢
 simp only [rickyardlaw11_same.f, p1, p2, p3, p4, h1, h2, h3, h4, h5, h6, h7, Option.bind_some, if_true, decide_true, beq_self_eq_true, Bool.and_self]
theorem LargeAll (l : List Bg) (b0 b1 c : Int) : ∃ k, rickyardlaw11_LargeAll.f k l b0 b1 c = some true := by
 by_cases d : (l.length : Int) > 300
 ·refine ⟨0, ?_⟩
  rw [rickyardlaw11_LargeAll.f, if_pos d, awake_is]
  rfl
 ·have hl : l.length ≤ 1000 := by omega
  obtain ⟨K1, h1⟩ := right_ev l hl
  obtain ⟨K2, h2⟩ := rright_ev l hl
  by_cases e : rb2 [] l = true
  ·have hr : rtB l := by simpa using rb2_rt l [] trivial e
   obtain ⟨K3, h3⟩ := same_all hr hl ⟨b0, b1⟩ c
   refine ⟨K1 + K2 + K3, ?_⟩
   have h1 := h1 (K1 + K2 + K3) (by omega)
   have h2 := h2 (K1 + K2 + K3) (by omega)
   have h3 := h3 (K1 + K2 + K3) (by omega)
   generalize K1 + K2 + K3 = k at h1 h2 h3
   dsimp only at h1 h2 h3
   rw [rickyardlaw11_LargeAll.f, if_neg d, h1, Option.bind_some, h2, Option.bind_some, if_neg (by simp), Option.bind_some, if_pos e, h3, Option.bind_some, if_pos rfl, awake_is]
   rfl
  ·refine ⟨K1 + K2, ?_⟩
   have h1 := h1 (K1 + K2) (by omega)
   have h2 := h2 (K1 + K2) (by omega)
   generalize K1 + K2 = k at h1 h2
   dsimp only at h1 h2
   rw [rickyardlaw11_LargeAll.f, if_neg d, h1, Option.bind_some, h2, Option.bind_some, if_neg (by simp), Option.bind_some, if_neg e, awake_is]
   rfl
end Go.Proofs.Ytflhbakjlbmfbaa.Pure
