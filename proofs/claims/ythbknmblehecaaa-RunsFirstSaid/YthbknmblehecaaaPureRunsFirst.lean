/- RunsFirst: whatever numbers the runs are made of, the answer is true: the plain statement. No memory and no program in it. -/
import Derived.Test.YthbknmblehecaaaRunsLaw3
import Derived.Test.YthbknmblehecaaaPrx6
namespace Go.Proofs.Ythbknmblehecaaa.Pure
set_option linter.unusedVariables false
set_option linter.unusedSimpArgs false
open Go.RowKit Go.Proofs.Ythbknmblehecaaa.Pr Go.Proofs.YthbknmblehecaaaW.PrintWords Go.Proofs.YthbknmblehecaaaW.PrintLast Go.Proofs.YthbknmblehecaaaW.PrintMore

theorem take_isF {l : List Rn} {n : Int} (hr : rt 256 (-1) l) (hn : 1 ≤ n) : runs_Take.f l n = some (if fits n l = true then (tk n l, tat n l, 0) else ([], 0, 3)) := by
  have hl : l.length ≤ 1000 := by
    rcases rt_len hr with rfl | h
    · simp
    · omega
  by_cases c : fits n l = true
  · rw [if_pos c]; exact take_some hr (by omega) (by omega) hl hn c
  · rw [if_neg c]; exact take_none hl hn (by simpa using c)
/-- What stands behind the loop, of a run that is taken whole. -/
theorem first_end1 (k : Nat) (pre suf : List Rn) (x : Rn) (n : Int) (hl : (pre ++ x :: suf).length ≤ 1000) (he : x.f1 = n)
    (s1 : rickyardref1_SameRuns.f k pre pre = some true) (s2 : rickyardref1_SameRuns.f k suf suf = some true) (aw : rickyardlaw5_awake.f k = some true) :
    rickyardlaw5_RunsFirst.l0 (k + 1) (pre ++ x :: suf) n (pre.length : Int) (pre ++ suf) x.f0 (pre.length : Int) = some true := by
  have h1 : (pre ++ x :: suf).length = pre.length + suf.length + 1 := by simp; omega
  have h2 : (pre ++ suf).length = pre.length + suf.length := by simp
  have p1 : ¬ ((pre.length : Int) < (pre.length : Int)) := by omega
  have p2 : (pre.length : Int) < ((pre ++ x :: suf).length : Int) := by omega
  have p3 : ((pre ++ suf).length : Int) = wrap64 (((pre ++ x :: suf).length : Int) - 1) := by rw [w64 (by omega) (by omega)]; omega
  have p4 : (pre.length : Int) ≤ ((pre ++ suf).length : Int) := by omega
  have p5 : (pre.length : Int) ≤ ((pre ++ x :: suf).length : Int) := by omega
  have p6 : 0 ≤ (pre.length : Int) + 1 := by omega
  have p7 : (pre.length : Int) + 1 ≤ ((pre ++ x :: suf).length : Int) := by omega
  have e1 : wrap64 ((pre.length : Int) + 1) = (pre.length : Int) + 1 := w64 (by omega) (by omega)
  have t1 : (pre ++ suf).take ((pre.length : Int).toNat) = pre := by rw [Int.toNat_natCast]; simp
  have t2 : (pre ++ x :: suf).take ((pre.length : Int).toNat) = pre := by rw [Int.toNat_natCast]; simp
  have t3 : (pre ++ suf).drop ((pre.length : Int).toNat) = suf := by rw [Int.toNat_natCast]; simp
  have t4 : (pre ++ x :: suf).drop (((pre.length : Int) + 1).toNat) = suf := by
    rw [show ((pre.length : Int) + 1).toNat = (pre ++ [x]).length by simp, snoc]
    simp
  rw [rickyardlaw5_RunsFirst.l0, if_neg p1, if_pos (nn _), if_pos p2, rd_mid, if_pos he, if_pos p3, if_pos p4, if_pos p5, t1, t2, s1, Option.bind_some, if_pos rfl, e1, if_pos p6, if_pos p7, t3, t4, s2, Option.bind_some, if_pos rfl, aw]
  rfl
/-- .. of a run that is taken in part. -/
theorem first_end2 (k : Nat) (pre suf : List Rn) (x : Rn) (n : Int) (hl : (pre ++ x :: suf).length ≤ 1000) (he : ¬ x.f1 = n) (hx : 0 ≤ x.f0 ∧ x.f0 + x.f1 ≤ 256 ∧ 1 ≤ n ∧ n ≤ x.f1)
    (s1 : rickyardref1_SameRuns.f k pre pre = some true) (s2 : rickyardref1_SameRuns.f k suf suf = some true) (aw : rickyardlaw5_awake.f k = some true) :
    rickyardlaw5_RunsFirst.l0 (k + 1) (pre ++ x :: suf) n (pre.length : Int) (pre ++ (⟨x.f0 + n, x.f1 - n⟩ : Rn) :: suf) x.f0 (pre.length : Int) = some true := by
  have g0 : wrap64 (x.f0 + n) = x.f0 + n := w64 (by omega) (by omega)
  have g1 : wrap64 (x.f1 - n) = x.f1 - n := w64 (by omega) (by omega)
  obtain ⟨y, hy⟩ : ∃ y : Rn, y = ⟨x.f0 + n, x.f1 - n⟩ := ⟨_, rfl⟩
  have q : (y.f0 == wrap64 (x.f0 + n) && (y.f1 == wrap64 (x.f1 - n))) = true := by rw [hy, g0, g1]; simp
  rw [← hy]
  clear hy g0 g1
  have Q := Aside0.mk q
  clear q
  have h1 : (pre ++ x :: suf).length = pre.length + suf.length + 1 := by simp; omega
  have h2 : (pre ++ y :: suf).length = pre.length + suf.length + 1 := by simp; omega
  have p1 : ¬ ((pre.length : Int) < (pre.length : Int)) := by omega
  have p2 : (pre.length : Int) < ((pre ++ x :: suf).length : Int) := by omega
  have p2' : (pre.length : Int) < ((pre ++ y :: suf).length : Int) := by omega
  have p3 : ((pre ++ y :: suf).length : Int) = ((pre ++ x :: suf).length : Int) := by omega
  have p4 : (pre.length : Int) ≤ ((pre ++ y :: suf).length : Int) := by omega
  have p5 : (pre.length : Int) ≤ ((pre ++ x :: suf).length : Int) := by omega
  have p6 : 0 ≤ (pre.length : Int) + 1 := by omega
  have p7 : (pre.length : Int) + 1 ≤ ((pre ++ x :: suf).length : Int) := by omega
  have p8 : (pre.length : Int) + 1 ≤ ((pre ++ y :: suf).length : Int) := by omega
  have e1 : wrap64 ((pre.length : Int) + 1) = (pre.length : Int) + 1 := w64 (by omega) (by omega)
  have t1 : (pre ++ y :: suf).take ((pre.length : Int).toNat) = pre := by rw [Int.toNat_natCast]; simp
  have t2 : (pre ++ x :: suf).take ((pre.length : Int).toNat) = pre := by rw [Int.toNat_natCast]; simp
  have td : ∀ z : Rn, (pre ++ z :: suf).drop (((pre.length : Int) + 1).toNat) = suf := by
    intro z
    rw [show ((pre.length : Int) + 1).toNat = (pre ++ [z]).length by simp, snoc]
    simp
  rw [rickyardlaw5_RunsFirst.l0, if_neg p1, if_pos (nn _), if_pos p2, rd_mid, if_neg he, if_pos p3, if_pos p4, if_pos p5, t1, t2, s1, Option.bind_some, if_pos rfl, if_pos p2', rd_mid, if_pos Q.out, e1, if_pos p6, if_pos p8, if_pos p7, td, td, s2, Option.bind_some, if_pos rfl, aw]
  rfl
theorem first_loop (pre suf : List Rn) (x : Rn) (n : Int) (a : List Rn) (at_ : Int) (hl : (pre ++ x :: suf).length ≤ 1000) (hp : ∀ y ∈ pre, y.f1 < n)
    (h : Ev (fun k => rickyardlaw5_RunsFirst.l0 k (pre ++ x :: suf) n (pre.length : Int) a at_ (pre.length : Int)) true) :
    ∀ (done todo : List Rn), pre = done ++ todo → Ev (fun k => rickyardlaw5_RunsFirst.l0 k (pre ++ x :: suf) n (pre.length : Int) a at_ (done.length : Int)) true := by
  intro done todo
  induction todo generalizing done with
  | nil => intro e; rw [List.append_nil] at e; rw [← e]; exact h
  | cons y todo ih =>
    intro e
    have := ih (done ++ [y]) (by rw [e]; simp)
    refine Ev.step (fun k => ?_) this
    have hlen : (pre ++ x :: suf).length = done.length + todo.length + suf.length + 2 := by rw [e]; simp; omega
    have hpl : pre.length = done.length + todo.length + 1 := by rw [e]; simp; omega
    have p1 : (done.length : Int) < (pre.length : Int) := by omega
    have p2 : (done.length : Int) < ((pre ++ x :: suf).length : Int) := by omega
    have e1 : rd_T32 (pre ++ x :: suf) (done.length : Int) = y := by
      rw [e, List.append_assoc, List.cons_append]; exact rd_mid done y _
    have p3 : ¬ (y.f1 ≥ n) := by have := hp y (by rw [e]; simp); omega
    have e2 : wrap64 ((done.length : Int) + 1) = ((done ++ [y]).length : Int) := by rw [w64 (by omega) (by omega)]; simp
    rw [rickyardlaw5_RunsFirst.l0, if_pos p1, if_pos (nn _), if_pos p2, e1, if_neg p3, e2]
theorem RunsFirst : rickyardlaw5_RunsFirst.Pure := by
  intro l0 a1 hm hl h8 w1
  obtain ⟨r, h1, hr⟩ := made_ev h8 hl
  have hu := u8_of w1
  have hlen : r.length ≤ 1000 := by
    rcases rt_len hr with rfl | h
    · simp
    · omega
  have e1 : wrap64 a1 = a1 := w64 (by omega) (by omega)
  have e2 : Int.tmod a1 24 = a1 % 24 := tmod_emod (by omega)
  have e3 : wrap64 (1 + a1 % 24) = 1 + a1 % 24 := w64 (by omega) (by omega)
  obtain ⟨n, hn⟩ : ∃ n, 1 + a1 % 24 = n := ⟨_, rfl⟩
  rw [hn] at e3
  have hn1 : 1 ≤ n ∧ n ≤ 24 := by omega
  have t1 := take_isF hr (n := n) (by omega)
  have hfit : runs_Fit.f r n = some (fitS r n) := by simp only [runs_Fit.f]; rw [if_pos (by omega)]
  obtain ⟨K1, h1⟩ := h1
  obtain ⟨K4, h4⟩ := awake5_ev
  by_cases c : fits n r = true
  · rw [if_pos c] at t1
    obtain ⟨pre, x, suf, rfl, hx, hp, hfs, hta, htk⟩ := fitS_some (by omega) c
    rw [hfs] at hfit
    have hxm := rt_mem hr (x := x) (by simp)
    have hpl : pre.length + suf.length + 1 = (pre ++ x :: suf).length := by simp; omega
    obtain ⟨K2, h2⟩ := same_ev pre pre (by omega)
    obtain ⟨K3, h3⟩ := same_ev suf suf (by omega)
    have hend : Ev (fun k => rickyardlaw5_RunsFirst.l0 k (pre ++ x :: suf) n (pre.length : Int) (tk n (pre ++ x :: suf)) (tat n (pre ++ x :: suf)) (pre.length : Int)) true := by
      rw [hta, htk]
      refine ⟨K2 + K3 + K4 + 1, fun k hk => ?_⟩
      obtain ⟨k, rfl⟩ : ∃ m, k = m + 1 := ⟨k - 1, by omega⟩
      have h2 := h2 k (by omega)
      have h3 := h3 k (by omega)
      have h4 := h4 k (by omega)
      simp only [decide_true] at h2 h3
      by_cases d : x.f1 = n
      · rw [if_pos d]; exact first_end1 k pre suf x n hlen d h2 h3 h4
      · rw [if_neg d]; exact first_end2 k pre suf x n hlen d (by omega) h2 h3 h4
    have hloop := first_loop pre suf x n _ _ hlen hp hend [] pre rfl
    obtain ⟨K5, h5⟩ := hloop
    refine ⟨K1 + K5 + 1, ?_⟩
    have h1 := h1 (K1 + K5 + 1) (by omega)
    have h5 := h5 (K1 + K5) (by omega)
    generalize K1 + K5 = k at h1 h5
    have q1 : ¬ ((pre.length : Int) < 0) := by omega
    have q2 : ¬ ((pre.length : Int) ≥ ((pre ++ x :: suf).length : Int)) := by omega
    have q3 : (pre.length : Int) < ((pre ++ x :: suf).length : Int) := by omega
    have q4 : tat n (pre ++ x :: suf) = (rd_T32 (pre ++ x :: suf) (pre.length : Int)).f0 := by rw [rd_mid, hta]
    simp only [rickyardlaw5_RunsFirst.f, e1, e2, hn, e3, h1, hfit, t1, Option.bind_some, if_true]
    rw [if_neg q1, if_neg q2, if_pos (nn _), if_pos q3, if_pos q4, rd_mid, decide_eq_false (by omega)]
    rw [rickyardlaw5_RunsFirst.j0, if_neg (by decide)]
    exact h5
  · rw [if_neg c] at t1
    rw [fitS_none (by omega) (by simpa using c)] at hfit
    refine ⟨K1 + K4, ?_⟩
    have h1 := h1 (K1 + K4) (by omega)
    have h4 := h4 (K1 + K4) (by omega)
    generalize K1 + K4 = k at h1 h4
    simp only [rickyardlaw5_RunsFirst.f, e1, e2, hn, e3, h1, hfit, t1, Option.bind_some, if_true]
    rw [if_neg (by decide)]
    exact (congrArg (fun z => Option.bind z fun t195 => some t195) h4).trans rfl
end Go.Proofs.Ythbknmblehecaaa.Pure
