/- LinTwice in plain words: two allocs of one place, or two frees with one alloc, have no order; those ahead of the last one have one. No statement is proved here. -/
import Derived.Test.YtpddppipjlagfaaLinEx
namespace Go.Proofs.Ytpddppipjlagfaa.Pure
set_option linter.unusedVariables false
set_option linter.unusedSimpArgs false
open Go.RowKit Go.Proofs.YtpddppipjlagfaaW.PrintWords Go.Proofs.YtpddppipjlagfaaW.PrintLast Go.Proofs.YtpddppipjlagfaaW.PrintMore Pr Go.Proofs.Ytpddppipjlagfaa.Dfs

def tOp (t : List Int) (d : De) (i : Nat) : Oq := if 2 * i + 1 < t.length then ⟨d, rd t ((2 * i : Nat) : Int), rd t ((2 * i : Nat) : Int) + rd t ((2 * i + 1 : Nat) : Int)⟩ else ⟨d, 0, 300⟩
theorem tOp_ok {t : List Int} (ht : ∀ x ∈ t, (Lit.int .u8 x).wf = true) (d : De) (i : Nat) : (tOp t d i).f0 = d ∧ 0 ≤ (tOp t d i).f1 ∧ (tOp t d i).f1 ≤ 255 ∧ (tOp t d i).f1 ≤ (tOp t d i).f2 ∧ (tOp t d i).f2 ≤ 510 := by
  have h1 := rd_u8 ht ((2 * i : Nat) : Int)
  have h2 := rd_u8 ht ((2 * i + 1 : Nat) : Int)
  unfold tOp
  split
  · exact ⟨rfl, by dsimp only; omega, by dsimp only; omega, by dsimp only; omega, by dsimp only; omega⟩
  · exact ⟨rfl, by dsimp only; omega, by dsimp only; omega, by dsimp only; omega, by dsimp only; omega⟩
/-! ### The deeds -/
def aD (n t : Int) : De := ⟨1, n, t, 0⟩
def fD (t : Int) : De := ⟨2, 0, t, 0⟩
theorem fD_ok (n t : Int) : accR 16384 [⟨t, cls n, -1⟩] (fD t) = (16384, [], true) := by
  unfold accR fD
  rw [if_neg (by simp), if_neg (by simp), if_neg (by simp), if_pos ⟨rfl, rfl⟩]
  unfold freeR findL delL
  simp
theorem fD_no (t : Int) : (accR 16384 [] (fD t)).2.2 = false := by
  unfold accR fD
  rw [if_neg (by simp), if_neg (by simp), if_neg (by simp), if_pos ⟨rfl, rfl⟩]
  rfl
theorem acc_f (t : Int) (S : List De) : (accsL 16384 [] (fD t :: S)).2.2 = false := by
  unfold accsL
  rw [if_neg (by rw [fD_no t]; simp)]
section
variable {n t : Int} (hn : 1 ≤ n ∧ n ≤ 256) (ht : 0 ≤ t ∧ t ≤ 8160 ∧ t % 32 = 0)
include hn ht
theorem aD_lie : lieP 16384 ⟨t, cls n, -1⟩ := by
  have h : wd (cls n) ≤ 256 ∧ 0 < wd (cls n) := by
    unfold cls
    repeat' split
    all_goals first | (constructor <;> decide) | (exfalso; omega)
  exact ⟨h.2, ht.1, ht.2.2, by have := h.1; dsimp only; omega⟩
theorem aD_ok : accR 16384 [] (aD n t) = (16384, [⟨t, cls n, -1⟩], true) := by
  have h1 : allocL 16384 [] n t = some [⟨t, cls n, -1⟩] := by
    unfold allocL
    rw [if_pos ⟨⟨hn.1, by omega⟩, aD_lie hn ht, rfl⟩]
    rfl
  unfold accR aD
  rw [if_pos ⟨rfl, rfl⟩]
  unfold allocR
  dsimp only
  rw [h1]
theorem aD_no : (accR 16384 [⟨t, cls n, -1⟩] (aD n t)).2.2 = false := by
  have h2 := aD_lie hn ht
  have h1 : allocL 16384 [⟨t, cls n, -1⟩] n t = none := by
    unfold allocL
    rw [if_neg]
    intro h
    have h3 : liveOver ⟨t, cls n, -1⟩ ⟨t, cls n, -1⟩ = true := (lov_is (m := 16384) (by decide) h2 h2).2 (by have := h2.1; dsimp only at *; omega)
    have h4 := h.2.2
    simp [h3] at h4
  unfold accR aD
  rw [if_pos ⟨rfl, rfl⟩]
  unfold allocR
  dsimp only
  rw [h1]
theorem acc_a : (accsL 16384 [] [aD n t]).2.2 = true := by
  unfold accsL
  rw [aD_ok hn ht]
  rfl
theorem acc_af : (accsL 16384 [] [aD n t, fD t]).2.2 = true := by
  unfold accsL
  rw [aD_ok hn ht, if_pos rfl]
  dsimp only
  unfold accsL
  rw [fD_ok n t]
  rfl
theorem acc_aa (S : List De) : (accsL 16384 [] (aD n t :: aD n t :: S)).2.2 = false := by
  unfold accsL
  rw [aD_ok hn ht, if_pos rfl]
  dsimp only
  unfold accsL
  rw [if_neg (by rw [aD_no hn ht]; simp)]
theorem acc_aff (S : List De) : (accsL 16384 [] (aD n t :: fD t :: fD t :: S)).2.2 = false := by
  unfold accsL
  rw [aD_ok hn ht, if_pos rfl]
  dsimp only
  unfold accsL
  rw [fD_ok n t, if_pos rfl]
  exact acc_f t S
end
/-! ### The orders -/
def okT (d : De) (x : Oq) : Prop := x.f0 = d ∧ 0 ≤ x.f1 ∧ x.f1 ≤ 255 ∧ x.f1 ≤ x.f2 ∧ x.f2 ≤ 510
theorem okT_bad {d : De} {x : Oq} (h : okT d x) : badB x = false := by
  obtain ⟨_, h1, h2, h3, h4⟩ := h
  unfold badB
  rw [decide_eq_false (by omega), decide_eq_false (by omega), decide_eq_true (by omega), decide_eq_false (by omega), decide_eq_false (by omega)]
  rfl
theorem two_of {P : List Nat} (h : P.Nodup) (hl : P.length ≤ 2) (h0 : 0 ∈ P) (h1 : 1 ∈ P) : P = [0, 1] ∨ P = [1, 0] := by
  match P, hl with
  | [], _ => cases h0
  | [p], _ => simp at h0 h1; omega
  | [p, q], _ => simp at h0 h1 h ⊢; omega
theorem one_len {P : List Nat} (hl : P.length ≤ 1) (h0 : 0 ∈ P) : P.length = 1 := by
  match P, hl with
  | [], _ => cases h0
  | [p], _ => rfl
theorem ord_fa {n t : Int} {x y : Oq} (hx : okT (aD n t) x) (hy : okT (fD t) y) (c : y.f2 < x.f1) : ordF 16384 [x, y] = none := by
  refine ordF_none (fun P h => ?_)
  have h0 := FN_full h 0 (by simp) (by show x.f2 ≠ -1; have := hx.2; omega)
  have h1 := FN_full h 1 (by simp) (by show y.f2 ≠ -1; have := hy.2; omega)
  have ha := FN_acc h
  rcases two_of (FN_nodup h) (FN_len h) h0 h1 with rfl | rfl
  · have hh := ((fits_iff (upI [0, 1])).1 h).2.2.2.1
    have hh : (([1] : List Int).all (fun z => !ahB (opL [x, y] z) x) && true) = true := hh
    have : ahB (opL [x, y] 1) x = true := by
      show ahB y x = true
      unfold ahB endB
      rw [decide_eq_true c, Bool.and_true]
      have := hy.2
      simp
      omega
    simp [this] at hh
  · have ha : (accsL 16384 [] [y.f0, x.f0]).2.2 = true := ha
    rw [hx.1, hy.1, acc_f t] at ha
    cases ha
section
variable {n t : Int} (hn : 1 ≤ n ∧ n ≤ 256) (ht : 0 ≤ t ∧ t ≤ 8160 ∧ t % 32 = 0)
include hn ht
theorem ord_a {x : Oq} (hx : okT (aD n t) x) : ∃ R, ordF 16384 [x] = some R ∧ R.length = 1 := by
  have hm : mayB [x] = true := by unfold mayB; simp [okT_bad hx]
  have hF : FN 16384 [x] [0] := by
    refine FN_mk hm (by simp) (by simp) (fun i hi _ => by simp at hi; simp [hi]) rfl ?_
    show (accsL 16384 [] [x.f0]).2.2 = true
    rw [hx.1]
    exact acc_a hn ht
  obtain ⟨R, h1, h2, _⟩ := ordF_some hm (by simp) hF
  exact ⟨R, h1, one_len (FN_len h2) (FN_full h2 0 (by simp) (by show x.f2 ≠ -1; have := hx.2; omega))⟩
theorem ord_aa {x y : Oq} (hx : okT (aD n t) x) (hy : okT (aD n t) y) : ordF 16384 [x, y] = none := by
  refine ordF_none (fun P h => ?_)
  have h0 := FN_full h 0 (by simp) (by show x.f2 ≠ -1; have := hx.2; omega)
  have h1 := FN_full h 1 (by simp) (by show y.f2 ≠ -1; have := hy.2; omega)
  have ha := FN_acc h
  rcases two_of (FN_nodup h) (FN_len h) h0 h1 with rfl | rfl
  · have ha : (accsL 16384 [] [x.f0, y.f0]).2.2 = true := ha
    rw [hx.1, hy.1, acc_aa hn ht] at ha
    cases ha
  · have ha : (accsL 16384 [] [y.f0, x.f0]).2.2 = true := ha
    rw [hx.1, hy.1, acc_aa hn ht] at ha
    cases ha
theorem ord_af {x y : Oq} (hx : okT (aD n t) x) (hy : okT (fD t) y) (c : ¬ y.f2 < x.f1) : ∃ R, ordF 16384 [x, y] = some R ∧ R.length = 2 := by
  have hm : mayB [x, y] = true := by unfold mayB; simp [okT_bad hx, okT_bad hy]
  have hF : FN 16384 [x, y] [0, 1] := by
    refine FN_mk hm (by simp) (by simp) (fun i hi _ => by simp at hi ⊢; omega) ?_ ?_
    · show (([1] : List Int).all (fun z => !ahB (opL [x, y] z) x) && true) = true
      have : ahB (opL [x, y] 1) x = false := by
        show ahB y x = false
        unfold ahB
        rw [decide_eq_false c, Bool.and_false]
      simp [this]
    · show (accsL 16384 [] [x.f0, y.f0]).2.2 = true
      rw [hx.1, hy.1]
      exact acc_af hn ht
  obtain ⟨R, h1, h2, _⟩ := ordF_some hm (by simp) hF
  refine ⟨R, h1, ?_⟩
  rcases two_of (FN_nodup h2) (FN_len h2) (FN_full h2 0 (by simp) (by show x.f2 ≠ -1; have := hx.2; omega)) (FN_full h2 1 (by simp) (by show y.f2 ≠ -1; have := hy.2; omega)) with rfl | rfl
  · rfl
  · rfl
theorem ord_aff {x y z : Oq} (hx : okT (aD n t) x) (hy : okT (fD t) y) (hz : okT (fD t) z) : ordF 16384 [x, y, z] = none := by
  refine ordF_none (fun P h => ?_)
  have h0 := FN_full h 0 (by simp) (by show x.f2 ≠ -1; have := hx.2; omega)
  have h1 := FN_full h 1 (by simp) (by show y.f2 ≠ -1; have := hy.2; omega)
  have h2 := FN_full h 2 (by simp) (by show z.f2 ≠ -1; have := hz.2; omega)
  have ha := FN_acc h
  have hlt := FN_lt h
  have hnd := FN_nodup h
  have hd : ∀ p : Nat, p < 3 → p ≠ 0 → (opL [x, y, z] (p : Int)).f0 = fD t := fun p hp hp0 => by
    match p, hp, hp0 with
    | 1, _, _ => exact hy.1
    | 2, _, _ => exact hz.1
  clear h
  match P with
  | [] => cases h0
  | [p] => simp at h0 h1; omega
  | [p, q] => simp at h0 h1 h2; omega
  | p :: q :: r :: S =>
    have hp := hlt p (by simp)
    have hq := hlt q (by simp)
    have hr := hlt r (by simp)
    simp at hp hq hr
    by_cases c : p = 0
    · subst c
      have hq0 : q ≠ 0 := by simp at hnd; omega
      have hr0 : r ≠ 0 := by simp at hnd; omega
      rw [List.map_cons, List.map_cons, List.map_cons, hd q hq hq0, hd r hr hr0, show (opL [x, y, z] ((0 : Nat) : Int)).f0 = aD n t from hx.1, acc_aff hn ht] at ha
      cases ha
    · rw [List.map_cons, hd p hp c, acc_f t] at ha
      cases ha
end
/-- The list of deeds with their times. -/
def tU (t : List Int) (D : List De) : Nat → List Oq
  | 0 => []
  | i + 1 => tU t D i ++ [tOp t (rd_T38 D (i : Int)) i]
theorem tU_len (t : List Int) (D : List De) : ∀ i, (tU t D i).length = i
  | 0 => rfl
  | i + 1 => by rw [tU, List.length_append, tU_len t D i]; rfl
end Go.Proofs.Ytpddppipjlagfaa.Pure
