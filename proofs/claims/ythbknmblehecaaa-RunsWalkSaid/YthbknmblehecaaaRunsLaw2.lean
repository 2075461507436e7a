/- What the printed functions on runs answer: Put. No statement is proved here. -/
import Derived.Test.YthbknmblehecaaaRunsLaw1
import Derived.Test.YthbknmblehecaaaPrx4
namespace Go.Proofs.Ythbknmblehecaaa.Pure
set_option linter.unusedVariables false
set_option linter.unusedSimpArgs false
open Go.RowKit Go.Proofs.Ythbknmblehecaaa.Pr Go.Proofs.YthbknmblehecaaaW.PrintWords Go.Proofs.YthbknmblehecaaaW.PrintLast Go.Proofs.YthbknmblehecaaaW.PrintMore

/-- What a put hands back. -/
def putR (l : List Rn) (a b : Int) : List Rn × Int := match pt a b l with
  | none => ([], 4)
  | some m => (m, 0)
theorem pt_stop {a b : Int} {suf : List Rn} (h : ∀ y m, suf = y :: m → a + b ≤ y.f0) : pt a b suf = some (joinL ⟨a, b⟩ suf) := by
  cases suf with
  | nil => rfl
  | cons y m => unfold pt; rw [if_pos (h y m rfl)]
theorem pt_pass_none {a b : Int} (hb : 1 ≤ b) {pre suf : List Rn} (hp : ∀ x ∈ pre, x.f0 + x.f1 ≤ a) (hq : ∀ x ∈ pre, 1 ≤ x.f1) (h : pt a b suf = none) : pt a b (pre ++ suf) = none := by
  induction pre with
  | nil => exact h
  | cons x pre ih =>
    have h1 := hp x List.mem_cons_self
    have h2 := hq x List.mem_cons_self
    simp only [List.cons_append]
    unfold pt
    rw [if_neg (by omega), if_neg (by omega), ih (fun y hy => hp y (List.mem_cons_of_mem _ hy)) (fun y hy => hq y (List.mem_cons_of_mem _ hy))]
    rfl
theorem joinL_head (y : Rn) (m : List Rn) : ∃ z t, joinL y m = z :: t ∧ z.f0 = y.f0 := by
  cases m with
  | nil => exact ⟨y, [], rfl, rfl⟩
  | cons w m =>
    rw [joinL_cons]
    split
    · exact ⟨_, _, rfl, rfl⟩
    · exact ⟨_, _, rfl, rfl⟩
theorem pt_pass {a b p : Int} (hb : 1 ≤ b) (pre : List Rn) (y : Rn) (suf m : List Rn) : ∀ e : Int, rt p e (pre ++ y :: suf) → (∀ x ∈ pre ++ [y], x.f0 + x.f1 ≤ a) → pt a b suf = some m → pt a b (pre ++ y :: suf) = some (pre ++ joinL y m) := by
  induction pre with
  | nil =>
    intro e hr hp h
    have h1 := hp y (by simp)
    have h2 := hr.2.1
    simp only [List.nil_append]
    unfold pt
    rw [if_neg (by omega), if_neg (by omega), h]
    rfl
  | cons x pre ih =>
    intro e hr hp h
    have h1 := hp x (by simp)
    obtain ⟨a1, a2, a3, a4⟩ := hr
    have := ih (x.f0 + x.f1) a4 (fun z hz => hp z (List.mem_cons_of_mem _ hz)) h
    simp only [List.cons_append]
    unfold pt
    rw [if_neg (by omega), if_neg (by omega), this]
    simp only [Option.map_some, Option.some.injEq]
    cases pre with
    | nil =>
      obtain ⟨z, t, hz, hz0⟩ := joinL_head y m
      have := a4.1
      simp only [List.nil_append] at this ⊢
      rw [hz, joinL_cons, if_neg (by omega)]
    | cons w pre =>
      have := a4.1
      simp only [List.cons_append]
      rw [joinL_cons, if_neg (by omega)]

/-- A list with its last run joined to what is behind. -/
def joinPrev (pre m : List Rn) : List Rn := match pre.reverse with
  | [] => m
  | y :: q => q.reverse ++ joinL y m
theorem joinPrev_nil (m : List Rn) : joinPrev [] m = m := rfl
theorem joinPrev_snoc (q : List Rn) (y : Rn) (m : List Rn) : joinPrev (q ++ [y]) m = q ++ joinL y m := by
  unfold joinPrev
  rw [show (q ++ [y]).reverse = y :: q.reverse by simp]
  simp
theorem set_mid (pre : List Rn) (x y : Rn) (suf : List Rn) : (pre ++ x :: suf).set pre.length y = pre ++ y :: suf := by simp
theorem within_ev (a b : Int) : runs_within.f a b 256 = some (decide (1 ≤ b ∧ 0 ≤ a ∧ a ≤ 256 ∧ b ≤ wrap64 (256 - a))) := by
  simp only [runs_within.f]
  by_cases c1 : 1 ≤ b
  · rw [if_pos (by omega)]
    by_cases c2 : 0 ≤ a
    · rw [if_pos (by omega)]
      by_cases c3 : a ≤ 256
      · rw [if_pos (by omega)]; simp [c1, c2, c3]
      · rw [if_neg (by omega)]; simp [c3]
    · rw [if_neg (by omega)]; simp [c2]
  · rw [if_neg (by omega)]; simp [c1]
/-- The run ahead joined. -/
theorem put_j3 (pre : List Rn) (r : Rn) (suf : List Rn) (hl : (pre ++ r :: suf).length ≤ 1000) (hb : ∀ x ∈ pre ++ r :: suf, 0 ≤ x.f0 ∧ 1 ≤ x.f1 ∧ x.f0 + x.f1 ≤ 1000) :
    Ev (fun k => runs_Put.j3 k (pre.length : Int) (pre ++ r :: suf)) (joinPrev pre (r :: suf), 0) := by
  rcases List.eq_nil_or_concat pre with rfl | ⟨q, y, rfl⟩
  · rw [joinPrev_nil]
    refine Ev.step1 (fun k => ?_)
    simp only [runs_Put.j3, List.length_nil]
    rw [if_neg (by omega), List.nil_append]
  · rw [List.concat_eq_append] at hl hb ⊢
    rw [joinPrev_snoc]
    have hlen : (q ++ [y] ++ r :: suf).length = q.length + suf.length + 2 := by simp; omega
    have hy := hb y (by simp)
    have hr2 := hb r (by simp)
    have e0 : (((q ++ [y]).length : Nat) : Int) = (q.length : Int) + 1 := by simp
    have p1 : (q.length : Int) + 1 > 0 := by omega
    have p2 : (q.length : Int) < ((q ++ [y] ++ r :: suf).length : Int) := by omega
    have p3 : 0 ≤ (q.length : Int) + 1 := by omega
    have p4 : (q.length : Int) + 1 < ((q ++ [y] ++ r :: suf).length : Int) := by omega
    have p5 : ((q.length : Int) + 1).toNat = q.length + 1 := by omega
    have e1 : wrap64 ((q.length : Int) + 1 - 1) = (q.length : Int) := by rw [w64 (by omega) (by omega)]; omega
    have e2 : rd_T32 (q ++ [y] ++ r :: suf) (q.length : Int) = y := by rw [List.append_assoc]; exact rd_mid q y _
    have e3 : rd_T32 (q ++ [y] ++ r :: suf) ((q.length : Int) + 1) = r := by rw [← e0]; exact rd_mid (q ++ [y]) r suf
    have e4 : wrap64 (y.f0 + y.f1) = y.f0 + y.f1 := w64 (by omega) (by omega)
    have e5 : wrap64 (y.f1 + r.f1) = y.f1 + r.f1 := w64 (by omega) (by omega)
    have e6 : wrap64 ((q.length : Int) + 1 + 1) = (q.length : Int) + 1 + 1 := w64 (by omega) (by omega)
    refine Ev.step1 (fun k => ?_)
    simp only [runs_Put.j3]
    rw [e0, if_pos p1, e1, if_pos (nn _), if_pos p2, e2, e3]
    simp only [runs_end.f, Option.bind_some]
    rw [e4, if_pos p3, if_pos p4, joinL_cons]
    by_cases c : y.f0 + y.f1 = r.f0
    · rw [if_pos c, if_pos c, e5, e6]
      simp only [api_Run_43.f, del_run]
      have e7 : ((q ++ [y] ++ r :: suf).set (q.length : Int).toNat (⟨y.f0, y.f1 + r.f1⟩ : Rn)) = q ++ (⟨y.f0, y.f1 + r.f1⟩ : Rn) :: r :: suf := by
        rw [Int.toNat_natCast, List.append_assoc]
        exact set_mid q y _ _
      rw [e7, if_pos ⟨p3, by rw [show (q ++ (⟨y.f0, y.f1 + r.f1⟩ : Rn) :: r :: suf).length = (q ++ [y] ++ r :: suf).length by simp]; exact p4, trivial⟩]
      simp only [Option.bind_some]
      rw [p5]
      have e8 : (q ++ (⟨y.f0, y.f1 + r.f1⟩ : Rn) :: r :: suf) = (q ++ [(⟨y.f0, y.f1 + r.f1⟩ : Rn)]) ++ r :: suf := by simp
      have e9 : (q ++ [(⟨y.f0, y.f1 + r.f1⟩ : Rn)]).length = q.length + 1 := by simp
      rw [e8, ← e9, List.take_left' rfl]
      rw [show (q ++ [(⟨y.f0, y.f1 + r.f1⟩ : Rn)]).length + 1 = ((q ++ [(⟨y.f0, y.f1 + r.f1⟩ : Rn)]) ++ [r]).length by simp]
      rw [show (q ++ [(⟨y.f0, y.f1 + r.f1⟩ : Rn)]) ++ r :: suf = ((q ++ [(⟨y.f0, y.f1 + r.f1⟩ : Rn)]) ++ [r]) ++ suf by simp, List.drop_left' rfl]
      simp
    · rw [if_neg c, if_neg c]
      simp
theorem put_j2 (pre : List Rn) (r : Rn) (suf : List Rn) (c : Bool) (hl : (pre ++ r :: suf).length ≤ 1000) (hb : ∀ x ∈ pre ++ r :: suf, 0 ≤ x.f0 ∧ 1 ≤ x.f1 ∧ x.f0 + x.f1 ≤ 1000) (hb2 : ∀ y m, suf = y :: m → r.f0 + r.f1 ≤ y.f0) (hb3 : ∀ y m, suf = y :: m → y.f0 + y.f1 ≤ 400)
    (hc : c = true ↔ ∃ y m, suf = y :: m ∧ r.f0 + r.f1 = y.f0) :
    Ev (fun k => runs_Put.j2 k (pre.length : Int) (pre ++ r :: suf) c) (joinPrev pre (joinL r suf), 0) := by
  cases c with
  | false =>
    have hj : joinL r suf = r :: suf := by
      cases suf with
      | nil => rfl
      | cons y m =>
        rw [joinL_cons, if_neg]
        intro e
        have := hc.2 ⟨y, m, rfl, e⟩
        cases this
    rw [hj]
    refine Ev.step (fun k => ?_) (put_j3 pre r suf hl hb)
    simp only [runs_Put.j2]
    rw [if_neg (by simp)]
  | true =>
    obtain ⟨y, m, rfl, he⟩ := hc.1 rfl
    have hy := hb y (by simp)
    have hr := hb r (by simp)
    have hy3 := hb3 y m rfl
    have hj : joinL r (y :: m) = ⟨r.f0, r.f1 + y.f1⟩ :: m := by rw [joinL_cons, if_pos he]
    rw [hj]
    have hlen : (pre ++ r :: y :: m).length = pre.length + m.length + 2 := by simp; omega
    have := put_j3 pre ⟨r.f0, r.f1 + y.f1⟩ m (by simp at hl ⊢; omega) (by
      intro x hx
      simp only [List.mem_append, List.mem_cons] at hx
      rcases hx with hx | rfl | hx
      · exact hb x (by simp [hx])
      · simp; omega
      · exact hb x (by simp [hx]))
    refine Ev.step (fun k => ?_) this
    have p2 : (pre.length : Int) < ((pre ++ r :: y :: m).length : Int) := by omega
    have p3 : 0 ≤ (pre.length : Int) + 1 := by omega
    have p4 : (pre.length : Int) + 1 < ((pre ++ r :: y :: m).length : Int) := by omega
    have p5 : ((pre.length : Int) + 1).toNat = pre.length + 1 := by omega
    have e5 : wrap64 (r.f1 + y.f1) = r.f1 + y.f1 := w64 (by omega) (by omega)
    have e1 : wrap64 ((pre.length : Int) + 1) = (pre.length : Int) + 1 := w64 (by omega) (by omega)
    have e2 : wrap64 ((pre.length : Int) + 2) = (pre.length : Int) + 1 + 1 := by rw [w64 (by omega) (by omega)]; omega
    have e3 : rd_T32 (pre ++ r :: y :: m) (pre.length : Int) = r := rd_mid pre r _
    have e4 : rd_T32 (pre ++ r :: y :: m) ((pre.length : Int) + 1) = y := by
      have := rd_mid (pre ++ [r]) y m
      simpa using this
    simp only [runs_Put.j2]
    rw [if_pos trivial, if_pos (nn _), if_pos p2, e1, if_pos p3, if_pos p4, e2, e3, e4, e5]
    simp only [api_Run_43.f, del_run]
    rw [Int.toNat_natCast, set_mid, if_pos ⟨p3, by rw [show (pre ++ (⟨r.f0, r.f1 + y.f1⟩ : Rn) :: y :: m).length = (pre ++ r :: y :: m).length by simp]; exact p4, trivial⟩]
    simp only [Option.bind_some]
    rw [p5]
    rw [show pre ++ (⟨r.f0, r.f1 + y.f1⟩ : Rn) :: y :: m = (pre ++ [(⟨r.f0, r.f1 + y.f1⟩ : Rn)]) ++ y :: m by simp]
    rw [show pre.length + 1 = (pre ++ [(⟨r.f0, r.f1 + y.f1⟩ : Rn)]).length by simp, List.take_left' rfl]
    rw [show (pre ++ [(⟨r.f0, r.f1 + y.f1⟩ : Rn)]).length + 1 = ((pre ++ [(⟨r.f0, r.f1 + y.f1⟩ : Rn)]) ++ [y]).length by simp]
    rw [show (pre ++ [(⟨r.f0, r.f1 + y.f1⟩ : Rn)]) ++ y :: m = ((pre ++ [(⟨r.f0, r.f1 + y.f1⟩ : Rn)]) ++ [y]) ++ m by simp, List.drop_left' rfl]
    simp
theorem clone_runs (l : List Rn) (h : l.length < 8796093022208) : api_Run_42.f l = some l := by
  simp only [api_Run_42.f]
  rw [if_pos h]
theorem ins_runs (pre suf : List Rn) (x : Rn) (h : ((pre ++ suf).length + 1) * 16 ≤ 140737488355328) : api_Run_46.f (pre ++ suf) (pre.length : Int) [x] = some (pre ++ x :: suf) := by
  have p1 : ((pre.length : Nat) : Int) ≤ ((pre ++ suf).length : Int) := by simp; omega
  simp only [api_Run_46.f, ins_run]
  rw [if_pos ⟨rfl, nn _, p1, h⟩]
  simp
theorem j1_nil (k : Nat) (pre : List Rn) (a b : Int) (h : pre.length ≤ 900) : runs_Put.j1 (k + 1) (pre ++ []) (pre.length : Int) a b = runs_Put.j2 k (pre.length : Int) (pre ++ (⟨a, b⟩ : Rn) :: []) false := by
  have hclone := clone_runs (pre ++ []) (by simp; omega)
  have hins := ins_runs pre [] ⟨a, b⟩ (by simp; omega)
  have p7 : ¬ ((pre.length : Int) + 1 < ((pre ++ (⟨a, b⟩ : Rn) :: []).length : Int)) := by simp
  have e1 : wrap64 ((pre.length : Int) + 1) = (pre.length : Int) + 1 := w64 (by omega) (by omega)
  rw [runs_Put.j1, hclone, Option.bind_some, hins, Option.bind_some, e1, if_neg p7]
theorem j1_cons (k : Nat) (pre : List Rn) (y : Rn) (m : List Rn) (a b : Int) (h : (pre ++ y :: m).length ≤ 900) (hw : wrap64 (a + b) = a + b) : runs_Put.j1 (k + 1) (pre ++ y :: m) (pre.length : Int) a b = runs_Put.j2 k (pre.length : Int) (pre ++ (⟨a, b⟩ : Rn) :: y :: m) ((a + b) == y.f0) := by
  have hl : (pre ++ y :: m).length = pre.length + m.length + 1 := by simp; omega
  have hclone := clone_runs (pre ++ y :: m) (by omega)
  have hins := ins_runs pre (y :: m) ⟨a, b⟩ (by omega)
  have hl2 : (pre ++ (⟨a, b⟩ : Rn) :: y :: m).length = pre.length + m.length + 2 := by simp; omega
  have p3 : (pre.length : Int) < ((pre ++ (⟨a, b⟩ : Rn) :: y :: m).length : Int) := by omega
  have p4 : 0 ≤ (pre.length : Int) + 1 := by omega
  have p8 : (pre.length : Int) + 1 < ((pre ++ (⟨a, b⟩ : Rn) :: y :: m).length : Int) := by omega
  have e1 : wrap64 ((pre.length : Int) + 1) = (pre.length : Int) + 1 := w64 (by omega) (by omega)
  have e3 : rd_T32 (pre ++ (⟨a, b⟩ : Rn) :: y :: m) (pre.length : Int) = ⟨a, b⟩ := rd_mid pre _ _
  have e4 : rd_T32 (pre ++ (⟨a, b⟩ : Rn) :: y :: m) ((pre.length : Int) + 1) = y := by
    have := rd_mid (pre ++ [(⟨a, b⟩ : Rn)]) y m
    simpa using this
  rw [runs_Put.j1, hclone, Option.bind_some, hins, Option.bind_some, e1, if_pos p8, if_pos (nn _), if_pos p3, e3, e4]
  simp only [runs_end.f]
  rw [Option.bind_some, if_pos p4, hw]
theorem put_j1 (pre suf : List Rn) (a b e : Int) (hr : rt 256 e (pre ++ suf)) (he : -1 ≤ e) (ha : 0 ≤ a) (hb : 1 ≤ b) (hab : a + b ≤ 256) (hp : ∀ x ∈ pre, x.f0 + x.f1 ≤ a) (hs : ∀ y m, suf = y :: m → a + b ≤ y.f0) (hl : (pre ++ suf).length ≤ 900) :
    Ev (fun k => runs_Put.j1 k (pre ++ suf) (pre.length : Int) a b) (putR (pre ++ suf) a b) := by
  have hm : ∀ x ∈ pre ++ suf, 0 ≤ x.f0 ∧ 1 ≤ x.f1 ∧ x.f0 + x.f1 ≤ 256 := fun x hx => by have := rt_mem hr hx; omega
  have hans : putR (pre ++ suf) a b = (joinPrev pre (joinL ⟨a, b⟩ suf), 0) := by
    unfold putR
    rcases List.eq_nil_or_concat pre with rfl | ⟨q, y, rfl⟩
    · rw [List.nil_append, pt_stop hs, joinPrev_nil]
    · rw [List.concat_eq_append] at hr hp ⊢
      rw [joinPrev_snoc]
      rw [List.append_assoc] at hr ⊢
      rw [show [y] ++ suf = y :: suf from rfl] at hr ⊢
      rw [pt_pass hb q y suf _ e hr hp (pt_stop hs)]
  rw [hans]
  have hlen : (pre ++ suf).length = pre.length + suf.length := by simp
  have hlen2 : (pre ++ (⟨a, b⟩ : Rn) :: suf).length = pre.length + suf.length + 1 := by simp; omega
  have p0 : (pre ++ suf).length < 8796093022208 := by omega
  have p1 : ((pre.length : Nat) : Int) ≤ ((pre ++ suf).length : Int) := by omega
  have p2 : ((pre ++ suf).length + 1) * 16 ≤ 140737488355328 := by omega
  have p3 : (pre.length : Int) < ((pre ++ (⟨a, b⟩ : Rn) :: suf).length : Int) := by omega
  have p4 : 0 ≤ (pre.length : Int) + 1 := by omega
  have p5 : wrap64 (a + b) = a + b := w64 (by omega) (by omega)
  have p6 : (pre ++ (⟨a, b⟩ : Rn) :: suf).length ≤ 1000 := by omega
  have e1 : wrap64 ((pre.length : Int) + 1) = (pre.length : Int) + 1 := w64 (by omega) (by omega)
  have e3 : rd_T32 (pre ++ (⟨a, b⟩ : Rn) :: suf) (pre.length : Int) = ⟨a, b⟩ := rd_mid pre _ _
  have hb' : ∀ x ∈ pre ++ (⟨a, b⟩ : Rn) :: suf, 0 ≤ x.f0 ∧ 1 ≤ x.f1 ∧ x.f0 + x.f1 ≤ 1000 := by
    intro x hx
    simp only [List.mem_append, List.mem_cons] at hx
    rcases hx with hx | rfl | hx
    · have := hm x (by simp [hx]); omega
    · simp; omega
    · have := hm x (by simp [hx]); omega
  have hb3 : ∀ y m, suf = y :: m → y.f0 + y.f1 ≤ 400 := fun y m h => by have := hm y (by rw [h]; simp); omega
  cases suf with
  | nil =>
    have hc0 : (false = true ↔ ∃ y m, ([] : List Rn) = y :: m ∧ (⟨a, b⟩ : Rn).f0 + (⟨a, b⟩ : Rn).f1 = y.f0) := ⟨fun h => (by cases h), fun ⟨y, m, h, _⟩ => (by cases h)⟩
    have h2 := put_j2 pre ⟨a, b⟩ [] false p6 hb' hs hb3 hc0
    exact Ev.step (fun k => j1_nil k pre a b (by simp at hl; exact hl)) h2
  | cons y m =>
    have h2 := put_j2 pre ⟨a, b⟩ (y :: m) ((a + b) == y.f0) p6 hb' hs hb3 (by simp)
    exact Ev.step (fun k => j1_cons k pre y m a b hl p5) h2
theorem put_l0 (a b e : Int) (he : -1 ≤ e) (ha : 0 ≤ a) (hb : 1 ≤ b) (hab : a + b ≤ 256) (suf : List Rn) : ∀ pre : List Rn, rt 256 e (pre ++ suf) → (∀ x ∈ pre, x.f0 + x.f1 ≤ a) → (pre ++ suf).length ≤ 900 →
    Ev (fun k => runs_Put.l0 k (pre ++ suf) ((pre ++ suf).length : Int) (pre ++ suf) ((pre ++ suf).length : Int) (pre.length : Int) a b) (putR (pre ++ suf) a b) := by
  induction suf with
  | nil =>
    intro pre hr hp hl
    have := put_j1 pre [] a b e hr he ha hb hab hp (by simp) hl
    refine Ev.step (fun k => ?_) this
    simp only [runs_Put.l0]
    rw [if_neg (end_nlt pre)]
    simp
  | cons x suf ih =>
    intro pre hr hp hl
    have hx := rt_mem hr (x := x) (by simp)
    have e1 : wrap64 (a + b) = a + b := w64 (by omega) (by omega)
    have e2 : wrap64 (x.f0 + x.f1) = x.f0 + x.f1 := w64 (by omega) (by omega)
    have hl2 : pre.length < 9223372036854775807 := by simp at hl; omega
    by_cases c : a + b ≤ x.f0
    · have := put_j1 pre (x :: suf) a b e hr he ha hb hab hp (by intro y m h; cases h; exact c) hl
      refine Ev.step (fun k => ?_) this
      simp only [runs_Put.l0, runs_end.f, Option.bind_some]
      rw [if_pos (mid_lt pre x suf), if_pos (nn _), if_pos (mid_lt pre x suf), rd_mid, e1, if_pos (by omega)]
    · by_cases d : a < x.f0 + x.f1
      · have hn : putR (pre ++ x :: suf) a b = ([], 4) := by
          unfold putR
          rw [pt_pass_none hb hp (fun z hz => (rt_mem hr (x := z) (by simp [hz])).2.1) (by unfold pt; rw [if_neg c, if_pos d])]
        rw [hn]
        refine Ev.step1 (fun k => ?_)
        simp only [runs_Put.l0, runs_end.f, Option.bind_some]
        rw [if_pos (mid_lt pre x suf), if_pos (nn _), if_pos (mid_lt pre x suf), rd_mid, e1, if_neg (by omega), e2, if_pos (by omega)]
      · have := ih (pre ++ [x]) (by simpa using hr) (by
          intro z hz
          simp only [List.mem_append, List.mem_singleton] at hz
          rcases hz with hz | rfl
          · exact hp z hz
          · omega) (by simpa using hl)
        rw [← snoc] at this
        refine Ev.step (fun k => ?_) this
        simp only [runs_Put.l0, runs_end.f, Option.bind_some]
        rw [if_pos (mid_lt pre x suf), if_pos (nn _), if_pos (mid_lt pre x suf), rd_mid, e1, if_neg (by omega), e2, if_neg (by omega), nxt pre x hl2]
/-- Put, of a right list. -/
theorem put_ev {l : List Rn} {e a b : Int} (hr : rt 256 e l) (he : -1 ≤ e) (ha : 0 ≤ a) (hb : 1 ≤ b) (hab : a + b ≤ 256) : Ev (fun k => runs_Put.f k l a b) (putR l a b) := by
  have hl : l.length ≤ 900 := by
    rcases rt_len hr with rfl | h
    · simp
    · omega
  have := put_l0 a b e he ha hb hab l [] hr (by simp) hl
  refine Ev.congr (fun k => ?_) this
  simp only [runs_Put.f]
  rw [within_ev]
  simp only [Option.bind_some]
  rw [if_pos (by simp only [decide_eq_true_eq]; refine ⟨hb, ha, by omega, ?_⟩; rw [w64 (by omega) (by omega)]; omega)]
  rfl
/-- What can't be put. -/
theorem put_arg (k : Nat) (l : List Rn) (a b : Int) (h : ¬ (1 ≤ b ∧ 0 ≤ a ∧ a ≤ 256 ∧ b ≤ wrap64 (256 - a))) : runs_Put.f k l a b = some ([], 1) := by
  simp only [runs_Put.f]
  rw [within_ev]
  simp only [Option.bind_some]
  rw [if_neg (by simpa using h)]
end Go.Proofs.Ythbknmblehecaaa.Pure
