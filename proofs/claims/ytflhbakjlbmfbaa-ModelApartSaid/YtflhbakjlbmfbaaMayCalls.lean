/- Several texts in one: ModelMayL, MayCalls. -/
import Derived.Test.YtflhbakjlbmfbaaModelCalls
import Derived.Test.YtflhbakjlbmfbaaPrx36
/- Whether a model may be. No statement is proved here. -/
namespace Go.Proofs.Ytflhbakjlbmfbaa
open Go.RowKit Pr Go.Proofs.Ytflhbakjlbmfbaa.Pure
/-- Whether the rest of a list is right, behind what stands ahead. -/
def ckL (m : Int) : List Lv → List Lv → Bool
  | _, [] => true
  | pre, x :: suf => decide (lieP m x ∧ -1 ≤ x.f2) && ((match pre.getLast? with | none => true | some y => decide (y.f0 + wd y.f1 ≤ x.f0)) && ckL m (pre ++ [x]) suf)
def mayL (m : Int) (l : List Lv) : Bool := decide (mOk m) && ckL m [] l

end Go.Proofs.Ytflhbakjlbmfbaa
namespace Go.Proofs.Ytflhbakjlbmfbaa.Pure
open Go.RowKit Go.Proofs.Ytflhbakjlbmfbaa.Pr Go.Proofs.YtflhbakjlbmfbaaW.PrintWords Go.Proofs.YtflhbakjlbmfbaaW.PrintLast Go.Proofs.YtflhbakjlbmfbaaW.PrintMore
set_option linter.unusedVariables false
set_option linter.unusedSimpArgs false
theorem ck_rt (m : Int) (suf : List Lv) : ∀ pre : List Lv, rtL m pre → ckL m pre suf = true → rtL m (pre ++ suf) := by
  induction suf with
  | nil => intro pre h _; simpa using h
  | cons x suf ih =>
    intro pre h hb
    rw [ckL] at hb
    simp only [Bool.and_eq_true, decide_eq_true_eq] at hb
    obtain ⟨h1, h2, h3⟩ := hb
    rw [snoc]
    refine ih (pre ++ [x]) (rtL_snoc h h1 (fun y hy => ?_)) h3
    rcases List.eq_nil_or_concat pre with rfl | ⟨q, z, rfl⟩
    · cases hy
    · simp only [List.concat_eq_append] at h h2 hy
      have e : (q ++ [z]).getLast? = some z := by simp
      rw [e] at h2
      have hz : z.f0 + wd z.f1 ≤ x.f0 := of_decide_eq_true h2
      rcases List.mem_append.1 hy with hy | hy
      · have h4 := rtL_mid (suf := []) h y hy
        have h5 := (rtL_lie h (x := z) (by simp)).1.1
        omega
      · rcases List.mem_singleton.1 hy with rfl
        exact hz
theorem rt_ck (m : Int) (suf : List Lv) : ∀ pre : List Lv, rtL m (pre ++ suf) → ckL m pre suf = true := by
  induction suf with
  | nil => intro pre h; rfl
  | cons x suf ih =>
    intro pre h
    have h1 := rtL_lie h (x := x) (by simp)
    have h2 := rtL_mid h
    rw [snoc] at h
    rw [ckL, decide_eq_true h1, ih _ h, Bool.true_and, Bool.and_true]
    rcases List.eq_nil_or_concat pre with rfl | ⟨q, z, rfl⟩
    · rfl
    · simp only [List.concat_eq_append] at h2 ⊢
      have e : (q ++ [z]).getLast? = some z := by simp
      rw [e]
      exact decide_eq_true (h2 z (by simp))
theorem mayL_iff (m : Int) (l : List Lv) : mayL m l = true ↔ (mOk m ∧ rtL m l) := by
  unfold mayL
  rw [Bool.and_eq_true, decide_eq_true_eq]
  constructor
  · rintro ⟨h1, h2⟩
    exact ⟨h1, by simpa using ck_rt m l [] trivial h2⟩
  · rintro ⟨h1, h2⟩
    exact ⟨h1, rt_ck m l [] (by simpa using h2)⟩
theorem last_snocL (q : List Lv) (y : Lv) : (q ++ [y]).getLast? = some y := by simp
theorem idx_prevL (q : List Lv) (y : Lv) (h : (q ++ [y]).length < 9223372036854775807) : wrap64 (((q ++ [y]).length : Int) - 1) = (q.length : Int) := by
  simp at h
  rw [w64 (by simp <;> omega) (by simp <;> omega)]
  simp
theorem rd_prevL (q suf : List Lv) (y : Lv) : rd_T48 (q ++ [y] ++ suf) (q.length : Int) = y := by
  rw [List.append_assoc]
  exact rdL_mid q y suf
theorem may_l0 {m : Int} (hm : mOk m) (suf : List Lv) : ∀ pre : List Lv, (pre ++ suf).length < 9223372036854775807 → (∀ y, pre.getLast? = some y → lieP m y) → Ev (fun k => model_May.l0 k (pre ++ suf) ((pre ++ suf).length : Int) (pre.length : Int) m (pre ++ suf)) (ckL m pre suf) := by
  induction suf with
  | nil =>
    intro pre h hp
    refine Ev.eq (r := true) (Ev.step1 (fun k => ?_)) (by rw [ckL])
    rw [model_May.l0, if_neg (end_nlt pre)]
  | cons x suf ih =>
    intro pre h hp
    have hl : pre.length < 9223372036854775807 := by simp at h; omega
    have n1 := nxt pre x hl
    have c1 := mid_lt pre x suf
    have c0 := nn pre.length
    rw [ckL]
    by_cases d1 : lieP m x
    · by_cases d2 : x.f2 < -1
      · rw [decide_eq_false (show ¬ (lieP m x ∧ -1 ≤ x.f2) by omega)]
        refine Ev.step1 (fun k => ?_)
        rw [model_May.l0, if_pos c1, if_pos c0, if_pos c1, rdL_mid, lies_is hm, Option.bind_some, decide_eq_true d1, if_pos rfl, if_pos d2]
        rfl
      · rw [decide_eq_true (show (lieP m x ∧ -1 ≤ x.f2) from ⟨d1, by omega⟩)]
        have hi := ih (pre ++ [x]) (by simpa using h) (fun y hy => by rw [last_snocL] at hy; cases hy; exact d1)
        rw [← snoc] at hi
        rcases List.eq_nil_or_concat pre with rfl | ⟨q, z, rfl⟩
        · refine Ev.eq (Ev.step (fun k => ?_) hi) (by simp)
          rw [model_May.l0, if_pos c1, if_pos c0, if_pos c1, rdL_mid, lies_is hm, Option.bind_some, decide_eq_true d1, if_pos rfl, if_neg d2, if_neg (by simp), n1]
        · simp only [List.concat_eq_append] at hp h c1 c0 n1 hi hl ⊢
          have hz := hp z (last_snocL q z)
          rw [last_snocL]
          dsimp only
          have e1 := idx_prevL q z hl
          have e2 := rd_prevL q (x :: suf) z
          have e3 : (q.length : Int) < ((q ++ [z] ++ x :: suf).length : Int) := by simp <;> omega
          have hw := hz.1
          have ho := lov_is hm hz d1
          by_cases d3 : z.f0 ≥ x.f0
          · refine Ev.eq (r := false) (Ev.step1 (fun k => ?_)) (by
              rw [decide_eq_false (show ¬ (z.f0 + wd z.f1 ≤ x.f0) by omega)]; rfl)
            rw [model_May.l0, if_pos c1, if_pos c0, if_pos c1, rdL_mid, lies_is hm, Option.bind_some, decide_eq_true d1, if_pos rfl, if_neg d2, if_pos (by simp <;> omega), e1, if_pos (nn _), if_pos e3, e2, if_pos d3]
          · by_cases d4 : liveOver z x = true
            · have d5 : ¬ (z.f0 + wd z.f1 ≤ x.f0) := by
                rw [lov_symm] at d4
                have := ho.1 d4
                omega
              refine Ev.eq (r := false) (Ev.step1 (fun k => ?_)) (by rw [decide_eq_false d5]; rfl)
              rw [model_May.l0, if_pos c1, if_pos c0, if_pos c1, rdL_mid, lies_is hm, Option.bind_some, decide_eq_true d1, if_pos rfl, if_neg d2, if_pos (by simp <;> omega), e1, if_pos (nn _), if_pos e3, e2, if_neg d3, lover_is, Option.bind_some, if_pos d4]
            · have d5 : z.f0 + wd z.f1 ≤ x.f0 := by
                have hx1 := d1.1
                by_cases c : z.f0 + wd z.f1 ≤ x.f0
                · exact c
                · exact absurd (by rw [lov_symm]; exact ho.2 ⟨by omega, by omega⟩) d4
              refine Ev.eq (Ev.step (fun k => ?_) hi) (by rw [decide_eq_true d5]; rfl)
              rw [model_May.l0, if_pos c1, if_pos c0, if_pos c1, rdL_mid, lies_is hm, Option.bind_some, decide_eq_true d1, if_pos rfl, if_neg d2, if_pos (by simp <;> omega), e1, if_pos (nn _), if_pos e3, e2, if_neg d3, lover_is, Option.bind_some, if_neg d4, n1]
    · rw [decide_eq_false (fun h => d1 h.1)]
      refine Ev.step1 (fun k => ?_)
      rw [model_May.l0, if_pos c1, if_pos c0, if_pos c1, rdL_mid, lies_is hm, Option.bind_some, decide_eq_false d1, if_neg (by simp)]
      rfl
theorem may_ev (m : Int) (l : List Lv) (h : l.length < 9223372036854775807) : Ev (fun k => model_May.f k m l) (mayL m l) := by
  unfold mayL
  by_cases c : mOk m
  · rw [decide_eq_true c]
    have h0 := may_l0 c l [] (by simpa using h) (by simp)
    unfold mOk at c
    refine Ev.eq (Ev.congr (f := fun k => model_May.j0 k false m l) (fun k => by rw [model_May.f, if_neg (by omega), decide_eq_false (by omega)]) (Ev.step (fun k => by rw [model_May.j0, if_neg (by simp)]; rfl) h0)) (by simp)
  · rw [decide_eq_false c]
    unfold mOk at c
    refine Ev.congr (f := fun k => model_May.j0 k true m l) (fun k => ?_) (Ev.step1 (fun k => by rw [model_May.j0, if_pos rfl]; rfl))
    by_cases d : m < 0
    · rw [model_May.f, if_pos d]
    · rw [model_May.f, if_neg d, decide_eq_true (by omega)]
end Go.Proofs.Ytflhbakjlbmfbaa.Pure

/- May: a contract that reads. No statement is proved here. -/
namespace Go.Proofs.Ytflhbakjlbmfbaa
set_option linter.unusedVariables false
set_option linter.unusedSimpArgs false
open Go.RowKit Go.Proofs.YtflhbakjlbmfbaaW.PrintWords Go.Proofs.YtflhbakjlbmfbaaW.PrintLast Go.Proofs.YtflhbakjlbmfbaaW.PrintMore Pr Go.Proofs.Ytflhbakjlbmfbaa.Pure

section
variable {m : Int} {v : Value} {l : List Lv} {w : World}
theorem may_any (hl : l.length < 9223372036854775807) (h : Rd w v l) :
    Calls Try.prog 29 #[.agg #[.int .i64 m, v]] w fun e w' => e = .returned (.bool (mayL m l)) ∧ Below w.heap.size w w' := by
  obtain ⟨A, c, rfl, h2, h3⟩ := h
  obtain ⟨k, hk⟩ := (may_ev m l hl).rounds
  exact model_May.calls k m A c l _ w h3 h2 hk
end
end Go.Proofs.Ytflhbakjlbmfbaa
