/- The statements' Made: what it answers. No statement is proved here. -/
import Derived.Test.YtflhbakjlbmfbaaModelCalls
import Derived.Test.YtflhbakjlbmfbaaPrx21
import Derived.IntWalk
namespace Go.Proofs.Ytflhbakjlbmfbaa.Pure
open Go.RowKit Go.Proofs.Ytflhbakjlbmfbaa.Pr Go.Proofs.YtflhbakjlbmfbaaW.PrintWords Go.Proofs.YtflhbakjlbmfbaaW.PrintLast Go.Proofs.YtflhbakjlbmfbaaW.PrintMore Go.Proofs.Ytflhbakjlbmfbaa
set_option linter.unusedVariables false
set_option linter.unusedSimpArgs false
theorem rtL_owner {m : Int} {pre : List Lv} {x y : Lv} {suf : List Lv} (h : rtL m (pre ++ x :: suf)) (e0 : y.f0 = x.f0) (e1 : y.f1 = x.f1) (e2 : -1 ≤ y.f2) : rtL m (pre ++ y :: suf) := by
  induction pre with
  | nil =>
    obtain ⟨h1, h2, h3⟩ := h
    refine ⟨⟨?_, e2⟩, ?_, h3⟩
    · unfold lieP at *; rw [e0, e1]; exact h1.1
    · rw [e0, e1]; exact h2
  | cons z pre ih =>
    obtain ⟨h1, h2, h3⟩ := h
    refine ⟨h1, fun w hw => ?_, ih h3⟩
    rcases List.mem_append.1 hw with hw | hw
    · exact h2 w (List.mem_append_left _ hw)
    · rcases List.mem_cons.1 hw with rfl | hw
      · rw [e0]; exact h2 x (by simp)
      · exact h2 w (by simp [hw])
theorem made_l1 (ns : List Int) (hw : ∀ x ∈ ns, (Lit.int .u8 x).wf = true) (m : Int) (suf : List Lv) : ∀ pre : List Lv, rtL m (pre ++ suf) → (pre ++ suf).length ≤ 1000 → ∃ l', Ev (fun k => rickyardlaw13_Made.l1 k ns (pre.length : Int) m (pre ++ suf)) (m, l') ∧ rtL m l' ∧ l'.length = (pre ++ suf).length := by
  induction suf with
  | nil =>
    intro pre hr hl
    refine ⟨pre ++ [], Ev.step1 (fun k => ?_), hr, rfl⟩
    rw [rickyardlaw13_Made.l1, if_neg (end_nlt pre)]
  | cons x suf ih =>
    intro pre hr hl
    by_cases c : (pre.length : Int) < (ns.length : Int)
    · have hb := rd_u8 hw (pre.length : Int)
      obtain ⟨y, hy⟩ : ∃ y : Lv, y = ⟨x.f0, x.f1, wrap64 (Int.tmod (wrap64 (rd ns (pre.length : Int))) 4 - 1)⟩ := ⟨_, rfl⟩
      have hy2 : -1 ≤ y.f2 := by
        rw [hy]
        dsimp only
        rw [w64 (n := rd ns (pre.length : Int)) (by omega) (by omega), tmod_emod (by omega), w64 (by omega) (by omega)]
        omega
      have hr' := rtL_owner hr (y := y) (by rw [hy]) (by rw [hy]) hy2
      obtain ⟨l', h1, h2, h3⟩ := ih (pre ++ [y]) (by simpa using hr') (by simpa using hl)
      refine ⟨l', Ev.step (fun k => ?_) h1, h2, by rw [h3]; simp⟩
      have hp : pre.length < 9223372036854775807 := by simp at hl; omega
      have es : (pre ++ x :: suf).set (pre.length : Int).toNat y = (pre ++ [y]) ++ suf := by simp
      rw [rickyardlaw13_Made.l1, if_pos (mid_lt pre x suf), if_pos c, if_pos (nn _), rdL_mid, nxt pre y hp, ← es, ← hy]
    · refine ⟨pre ++ x :: suf, Ev.step1 (fun k => ?_), hr, rfl⟩
      rw [rickyardlaw13_Made.l1, if_pos (mid_lt pre x suf), if_neg c]
theorem rd_i64 (ns : List Int) (hw : ∀ x ∈ ns, (Lit.int .u8 x).wf = true) (i : Int) : wrap64 (rd ns i) = rd ns i := by
  have := rd_u8 hw i
  exact w64 (by omega) (by omega)
theorem made_l0 (ns : List Int) (hw : ∀ x ∈ ns, (Lit.int .u8 x).wf = true) (hn : ns.length ≤ 140737488351232) (d : Nat) : ∀ (i : Nat) (l : List Lv), rtL 16384 l → l.length ≤ 60 → ns.length + 3 = i + d → ∃ l', Ev (fun k => rickyardlaw13_Made.l0 k ns (i : Int) 16384 l) (16384, l') ∧ rtL 16384 l' ∧ l'.length ≤ 60 := by
  have hm : mOk 16384 := by decide
  have fin : ∀ (i : Nat) (l : List Lv) (b : Bool), b = false → rtL 16384 l → l.length ≤ 60 → ∃ l', Ev (fun k => rickyardlaw13_Made.j1 k ns (i : Int) b 16384 l) (16384, l') ∧ rtL 16384 l' ∧ l'.length ≤ 60 := by
    intro i l b hb hr hl
    obtain ⟨l', h1, h2, h3⟩ := made_l1 ns hw 16384 l [] (by simpa using hr) (by simp; omega)
    refine ⟨l', Ev.step (fun k => ?_) h1, h2, by rw [h3]; simpa using hl⟩
    rw [hb, rickyardlaw13_Made.j1, if_neg (by simp)]
    rfl
  induction d using Nat.strongRecOn with
  | _ d ih =>
    intro i l hr hl hd
    have w2 : wrap64 ((i : Int) + 2) = (i : Int) + 2 := w64 (by omega) (by omega)
    have w1 : wrap64 ((i : Int) + 1) = (i : Int) + 1 := w64 (by omega) (by omega)
    have w3 : wrap64 ((i : Int) + 3) = ((i + 3 : Nat) : Int) := by rw [w64 (by omega) (by omega)]; omega
    by_cases c : (i : Int) + 2 < (ns.length : Int)
    · by_cases c2 : l.length < 60
      · have hdec : decide ((l.length : Int) < 60) = true := decide_eq_true (by omega)
        have hb := rd_u8 hw (i : Int)
        have hsh : (0 : Int) ≤ Int.tmod (wrap64 (rd ns (i : Int))) 13 := by rw [rd_i64 ns hw, tmod_emod (by omega)]; omega
        have step : ∀ k, rickyardlaw13_Made.l0 (k + 2) ns (i : Int) 16384 l = (rickyardref13_Alloc.f 16384 l (shl .i64 1 (Int.tmod (wrap64 (rd ns (i : Int))) 13)) (wrap64 ((Int.tmod (wrap64 ((wrap64 ((wrap64 (rd ns ((i : Int) + 1))) * 256)) + (wrap64 (rd ns ((i : Int) + 2))))) 512) * 32))).bind fun bt307 => (if bt307.2.2 = true then (rickyardlaw13_Made.l0 k ns ((i + 3 : Nat) : Int) bt307.1 bt307.2.1) else (rickyardlaw13_Made.l0 k ns ((i + 3 : Nat) : Int) 16384 l)) := by
          intro k
          rw [rickyardlaw13_Made.l0, w2, if_pos c, hdec, rickyardlaw13_Made.j1, if_pos rfl, if_pos (by omega), if_pos (by omega), if_pos hsh, w1, if_pos (by omega), if_pos (by omega), w2, if_pos (by omega), if_pos c, w3]
        obtain ⟨n, hn1⟩ : ∃ n, n = shl .i64 1 (Int.tmod (wrap64 (rd ns (i : Int))) 13) := ⟨_, rfl⟩
        obtain ⟨a, ha1⟩ : ∃ n, n = wrap64 ((Int.tmod (wrap64 ((wrap64 ((wrap64 (rd ns ((i : Int) + 1))) * 256)) + (wrap64 (rd ns ((i : Int) + 2))))) 512) * 32) := ⟨_, rfl⟩
        rw [← hn1, ← ha1] at step
        have e : rickyardref13_Alloc.f 16384 l n a = some (allocR 16384 l n a) := by unfold rickyardref13_Alloc.f; rw [if_pos (by omega), ralloc_is hm hr]
        rw [e] at step
        simp only [Option.bind_some] at step
        by_cases c3 : (allocR 16384 l n a).2.2 = true
        · obtain ⟨h1, h2, h3⟩ := allocR_rt hm hr n a c3
          rw [h1] at step
          obtain ⟨l', h4, h5, h6⟩ := ih (d - 3) (by omega) (i + 3) (allocR 16384 l n a).2.1 h2 (by omega) (by omega)
          refine ⟨l', ?_, h5, h6⟩
          obtain ⟨K, hK⟩ := h4
          refine ⟨K + 2, fun k hk => ?_⟩
          obtain ⟨k, rfl⟩ : ∃ j, k = j + 2 := ⟨k - 2, by omega⟩
          dsimp only
          rw [step, if_pos c3]
          exact hK k (by omega)
        · obtain ⟨l', h4, h5, h6⟩ := ih (d - 3) (by omega) (i + 3) l hr hl (by omega)
          refine ⟨l', ?_, h5, h6⟩
          obtain ⟨K, hK⟩ := h4
          refine ⟨K + 2, fun k hk => ?_⟩
          obtain ⟨k, rfl⟩ : ∃ j, k = j + 2 := ⟨k - 2, by omega⟩
          dsimp only
          rw [step, if_neg c3]
          exact hK k (by omega)
      · obtain ⟨l', h1, h2, h3⟩ := fin i l (decide ((l.length : Int) < 60)) (decide_eq_false (by omega)) hr hl
        refine ⟨l', Ev.step (fun k => ?_) h1, h2, h3⟩
        rw [rickyardlaw13_Made.l0, w2, if_pos c]
    · obtain ⟨l', h1, h2, h3⟩ := fin i l false rfl hr hl
      refine ⟨l', Ev.step (fun k => ?_) h1, h2, h3⟩
      rw [rickyardlaw13_Made.l0, w2, if_neg c]
theorem made_ev (ns : List Int) (hw : ∀ x ∈ ns, (Lit.int .u8 x).wf = true) (hn : ns.length ≤ 140737488351232) : ∃ l' k, rickyardlaw13_Made.f k ns = some (16384, l') ∧ rtL 16384 l' ∧ l'.length ≤ 60 := by
  obtain ⟨l', h1, h2, h3⟩ := made_l0 ns hw hn (ns.length + 3) 0 [] trivial (by simp) (by omega)
  obtain ⟨k, hk⟩ := h1.rounds
  exact ⟨l', k, hk, h2, h3⟩
end Go.Proofs.Ytflhbakjlbmfbaa.Pure
