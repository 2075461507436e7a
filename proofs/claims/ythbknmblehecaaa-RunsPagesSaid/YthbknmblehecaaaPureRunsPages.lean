/- RunsPages: whatever numbers the runs are made of, the answer is true: the plain statement. No memory and no program in it. -/
import Derived.Test.YthbknmblehecaaaRunsLaw3
import Derived.Test.YthbknmblehecaaaPrx9
namespace Go.Proofs.Ythbknmblehecaaa.Pure
set_option linter.unusedVariables false
set_option linter.unusedSimpArgs false
open Go.RowKit Go.Proofs.Ythbknmblehecaaa.Pr Go.Proofs.YthbknmblehecaaaW.PrintWords Go.Proofs.YthbknmblehecaaaW.PrintLast Go.Proofs.YthbknmblehecaaaW.PrintMore

theorem take_isP {l : List Rn} {n : Int} (hr : rt 256 (-1) l) (hn : 1 ≤ n) : runs_Take.f l n = some (if fits n l = true then (tk n l, tat n l, 0) else ([], 0, 3)) := by
  have hl : l.length ≤ 1000 := by
    rcases rt_len hr with rfl | h
    · simp
    · omega
  by_cases c : fits n l = true
  · rw [if_pos c]; exact take_some hr (by omega) (by omega) hl hn c
  · rw [if_neg c]; exact take_none hl hn (by simpa using c)

/-- What the loop keeps: the list; what was taken, or nothing; what was put, or nothing. -/
structure Pgs (l : List Rn) (n : Int) (a : List Rn) (from_ e : Int) (b : List Rn) (f : Int) (ra rn : Int) : Prop where
  hl : rt 256 (-1) l
  hn : 1 ≤ n ∧ n ≤ 24
  he : e = 0 ∧ rt 256 (-1) a ∧ 0 ≤ from_ ∧ from_ + n ≤ 256 ∧ (∀ q, (pg a q ↔ pg l q ∧ ¬ (from_ ≤ q ∧ q < from_ + n)) ∧ (from_ ≤ q ∧ q < from_ + n → pg l q)) ∨ e = 3 ∧ from_ = 0
  hr : 0 ≤ ra ∧ ra ≤ 255 ∧ 1 ≤ rn ∧ rn ≤ 24
  hf : f = 0 ∧ rt 256 (-1) b ∧ ra + rn ≤ 256 ∧ (∀ q, (pg b q ↔ pg l q ∨ (ra ≤ q ∧ q < ra + rn)) ∧ (ra ≤ q ∧ q < ra + rn → ¬ pg l q)) ∨ f = 4 ∨ f = 1 ∧ rn > 256 - ra
theorem pages_l0 {l : List Rn} {n : Int} {a : List Rn} {from_ e : Int} {b : List Rn} {f ra rn : Int} (H : Pgs l n a from_ e b f ra rn) : ∀ (d : Nat) (p : Int), 256 - p ≤ d → 0 ≤ p → p ≤ 256 →
    Ev (fun k => rickyardlaw5_RunsPages.l0 k l n a from_ e b f p ra rn) true := by
  obtain ⟨hl, hn, he, hr, hf⟩ := H
  intro d
  have hend : Ev (fun k => rickyardlaw5_RunsPages.l0 k l n a from_ e b f 256 ra rn) true := by
    have hw : wrap64 (256 - ra) = 256 - ra := w64 (by omega) (by omega)
    refine Ev.step (f := fun k => (rickyardlaw5_awake.f k).bind fun t => some t) (fun k => ?_) (Ev.bind awake5_ev (Ev.now _))
    simp only [rickyardlaw5_RunsPages.l0]
    rw [if_neg (by omega), hw]
    rcases he with ⟨rfl, _⟩ | ⟨rfl, _⟩
    · rw [if_pos rfl]
      rcases hf with ⟨rfl, _⟩ | rfl | ⟨rfl, h⟩
      · rw [if_pos rfl]
      · rw [if_neg (by decide), if_pos rfl]
      · rw [if_neg (by decide), if_neg (by decide), if_pos rfl, if_pos h]
    · rw [if_neg (by decide), if_pos rfl]
      rcases hf with ⟨rfl, _⟩ | rfl | ⟨rfl, h⟩
      · rw [if_pos rfl]
      · rw [if_neg (by decide), if_pos rfl]
      · rw [if_neg (by decide), if_neg (by decide), if_pos rfl, if_pos h]
  induction d with
  | zero =>
    intro p h1 h2 h3
    obtain rfl : p = 256 := by omega
    exact hend
  | succ d ih =>
    intro p h1 h2 h3
    by_cases c : p = 256
    · subst c; exact hend
    · have hp : p < 256 := by omega
      have hnext := ih (p + 1) (by omega) (by omega) (by omega)
      have e1 : wrap64 (p + 1) = p + 1 := w64 (by omega) (by omega)
      have hw2 : wrap64 (ra + rn) = ra + rn := w64 (by omega) (by omega)
      have hlen : l.length ≤ 1000 := by
        rcases rt_len hl with rfl | h
        · simp
        · omega
      obtain ⟨was, hwas⟩ : ∃ was, decide (pg l p) = was := ⟨_, rfl⟩
      have hH := has_is hl (q := p) (by omega)
      rw [hwas] at hH
      have hwp : was = true ↔ pg l p := by rw [← hwas]; simp
      -- behind the take
      have hj2 : Ev (fun k => rickyardlaw5_RunsPages.j2 k l n a from_ e b f p was false ra rn) true := by
        refine Ev.step (fun k => ?_) hnext
        simp only [rickyardlaw5_RunsPages.j2]
        rw [if_neg (by decide), hw2, e1]
        rcases hf with ⟨rfl, hb, hab, hq⟩ | hf
        · have hB := has_is hb (q := p) (by omega)
          rw [if_pos rfl, if_pos rfl, hB]
          simp only [Option.bind_some]
          obtain ⟨q1, q2⟩ := hq p
          by_cases d1 : p ≥ ra
          · rw [if_pos d1]
            cases was with
            | true =>
              have hpl := hwp.1 rfl
              have hpb : pg b p := q1.2 (.inl hpl)
              rw [if_pos rfl, decide_eq_true hpb, if_neg (by decide), if_neg (by intro h; exact q2 ⟨d1, h⟩ hpl)]
            | false =>
              have hpl : ¬ pg l p := fun h => by have := hwp.2 h; cases this
              rw [if_neg (by decide)]
              by_cases d2 : p < ra + rn
              · rw [decide_eq_true (q1.2 (.inr ⟨d1, d2⟩)), decide_eq_true d2, if_neg (by decide), if_pos d2]
              · rw [decide_eq_false (fun h => (q1.1 h).elim hpl (fun h => d2 h.2)), decide_eq_false d2, if_neg (by decide), if_neg d2]
          · rw [if_neg d1]
            cases was with
            | true =>
              have hpl := hwp.1 rfl
              rw [if_pos rfl, decide_eq_true (q1.2 (.inl hpl)), if_neg (by decide)]
            | false =>
              have hpl : ¬ pg l p := fun h => by have := hwp.2 h; cases this
              rw [if_neg (by decide), decide_eq_false (fun h => (q1.1 h).elim hpl (fun h => by omega)), if_neg (by decide)]
        · have hf0 : ¬ f = 0 := by omega
          rw [if_neg hf0, if_neg hf0]
          split <;> rfl
      -- the take
      have hj1 : ∀ tk_ : Bool, (tk_ = true ↔ (from_ ≤ p ∧ p < from_ + n)) → Ev (fun k => rickyardlaw5_RunsPages.j1 k l n a from_ e b f p was tk_ ra rn) true := by
        intro tk_ htk
        refine Ev.step (fun k => ?_) hj2
        simp only [rickyardlaw5_RunsPages.j1]
        rcases he with ⟨rfl, ha, h0, h256, hq⟩ | ⟨rfl, rfl⟩
        · have hA := has_is ha (q := p) (by omega)
          rw [if_pos rfl, hA]
          simp only [Option.bind_some]
          obtain ⟨q1, q2⟩ := hq p
          cases tk_ with
          | true =>
            have ht := htk.1 rfl
            have hw : was = true := hwp.2 (q2 ht)
            subst hw
            rw [if_pos rfl, decide_eq_false (fun h => (q1.1 h).2 ht), if_neg (by decide), if_pos rfl]
            rfl
          | false =>
            have ht : ¬ (from_ ≤ p ∧ p < from_ + n) := fun h => by have := htk.2 h; cases this
            cases was with
            | true => rw [if_pos rfl, decide_eq_true (q1.2 ⟨hwp.1 rfl, ht⟩), if_neg (by decide), if_neg (by decide)]
            | false =>
              have hpl : ¬ pg l p := fun h => by have := hwp.2 h; cases this
              rw [if_neg (by decide), decide_eq_false (fun h => hpl (q1.1 h).1), if_neg (by decide), if_neg (by decide)]
        · rw [if_neg (by decide)]
      by_cases d1 : p ≥ from_
      · have hw : wrap64 (from_ + n) = from_ + n := by
          rcases he with ⟨_, _, _, _, _⟩ | ⟨_, rfl⟩
          · exact w64 (by omega) (by omega)
          · exact w64 (by omega) (by omega)
        refine Ev.step (fun k => ?_) (hj1 (decide (p < from_ + n)) (by simp; intro _; exact d1))
        simp only [rickyardlaw5_RunsPages.l0]
        rw [if_pos hp, hH]
        simp only [Option.bind_some]
        rw [if_pos d1, hw]
      · refine Ev.step (fun k => ?_) (hj1 false (by simp; intro h; omega))
        simp only [rickyardlaw5_RunsPages.l0]
        rw [if_pos hp, hH]
        simp only [Option.bind_some]
        rw [if_neg d1]
theorem RunsPages : rickyardlaw5_RunsPages.Pure := by
  intro l0 a1 a2 a3 hm hl h8 w1 w2 w3
  obtain ⟨r, h1, hr⟩ := made_ev h8 hl
  have hu1 := u8_of w1
  have hu2 := u8_of w2
  have hu3 := u8_of w3
  have e1 : wrap64 a1 = a1 := w64 (by omega) (by omega)
  have e2 : Int.tmod a1 24 = a1 % 24 := tmod_emod (by omega)
  have e3 : wrap64 (1 + a1 % 24) = 1 + a1 % 24 := w64 (by omega) (by omega)
  have f1 : wrap64 a2 = a2 := w64 (by omega) (by omega)
  have g1 : wrap64 a3 = a3 := w64 (by omega) (by omega)
  have g2 : Int.tmod a3 24 = a3 % 24 := tmod_emod (by omega)
  have g3 : wrap64 (1 + a3 % 24) = 1 + a3 % 24 := w64 (by omega) (by omega)
  obtain ⟨n, hn⟩ : ∃ n, 1 + a1 % 24 = n := ⟨_, rfl⟩
  obtain ⟨m, hm'⟩ : ∃ m, 1 + a3 % 24 = m := ⟨_, rfl⟩
  rw [hn] at e3
  rw [hm'] at g3
  have t1 := take_isP hr (n := n) (by omega)
  have hput : ∃ b f, Ev (fun k => runs_Put.f k r a2 m) (b, f) ∧ (f = 0 ∧ rt 256 (-1) b ∧ a2 + m ≤ 256 ∧ (∀ q, (pg b q ↔ pg r q ∨ (a2 ≤ q ∧ q < a2 + m)) ∧ (a2 ≤ q ∧ q < a2 + m → ¬ pg r q)) ∨ f = 4 ∨ f = 1 ∧ m > 256 - a2) := by
    by_cases c : a2 + m ≤ 256
    · have hp := put_ev hr (by omega) (a := a2) (b := m) (by omega) (by omega) c
      cases hq : pt a2 m r with
      | none => exact ⟨[], 4, by unfold putR at hp; rw [hq] at hp; exact hp, .inr (.inl rfl)⟩
      | some b => exact ⟨b, 0, by unfold putR at hp; rw [hq] at hp; exact hp, .inl ⟨rfl, pt_rt (by omega) (by omega) c hr hq, c, fun q => ⟨(pt_pg (by omega) hr hq q).1, (pt_pg (by omega) hr hq q).2.1⟩⟩⟩
    · exact ⟨[], 1, Ev.some_ (fun k => put_arg k r a2 m (by rw [w64 (by omega) (by omega)]; omega)), .inr (.inr ⟨rfl, by omega⟩)⟩
  obtain ⟨b, f, hput, hf⟩ := hput
  obtain ⟨K1, h1⟩ := h1
  obtain ⟨K2, h2⟩ := hput
  by_cases c : fits n r = true
  · rw [if_pos c] at t1
    have ht := tat_range hr c (by omega)
    obtain ⟨K3, h3⟩ := pages_l0 (l := r) (n := n) (a := tk n r) (from_ := tat n r) (e := 0) (b := b) (f := f) (ra := a2) (rn := m) ⟨hr, by omega, .inl ⟨rfl, tk_rt (by omega) hr, by omega, by omega, fun q => tk_pg (by omega) hr c q⟩, by omega, hf⟩ 256 0 (by omega) (by omega) (by omega)
    refine ⟨K1 + K2 + K3, ?_⟩
    have h1 := h1 (K1 + K2 + K3) (by omega)
    have h2 := h2 (K1 + K2 + K3) (by omega)
    have h3 := h3 (K1 + K2 + K3) (by omega)
    generalize K1 + K2 + K3 = k at h1 h2 h3
    simp only [rickyardlaw5_RunsPages.f, e1, e2, e3, f1, g1, g2, g3, hn, hm', h1, t1, Option.bind_some]
    simp only at h2 h3
    rw [h2]
    exact h3
  · rw [if_neg c] at t1
    obtain ⟨K3, h3⟩ := pages_l0 (l := r) (n := n) (a := []) (from_ := 0) (e := 3) (b := b) (f := f) (ra := a2) (rn := m) ⟨hr, by omega, .inr ⟨rfl, rfl⟩, by omega, hf⟩ 256 0 (by omega) (by omega) (by omega)
    refine ⟨K1 + K2 + K3, ?_⟩
    have h1 := h1 (K1 + K2 + K3) (by omega)
    have h2 := h2 (K1 + K2 + K3) (by omega)
    have h3 := h3 (K1 + K2 + K3) (by omega)
    generalize K1 + K2 + K3 = k at h1 h2 h3
    simp only [rickyardlaw5_RunsPages.f, e1, e2, e3, f1, g1, g2, g3, hn, hm', h1, t1, Option.bind_some]
    simp only at h2 h3
    rw [h2]
    exact h3
end Go.Proofs.Ythbknmblehecaaa.Pure
