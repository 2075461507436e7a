/- Two chains in one arena: the state of the statement's loop. No statement is proved here. -/
import Derived.Test.YtncmebefgklpjaaTwoLaw
namespace Go.Proofs.Ytncmebefgklpjaa
set_option linter.unusedVariables false
set_option linter.unusedSimpArgs false
open Go.RowKit Go.Proofs.YtncmebefgklpjaaW.PrintWords Go.Proofs.YtncmebefgklpjaaW.PrintLast Go.Proofs.YtncmebefgklpjaaW.PrintMore

structure CS (l M L0 L1 : List Int) (h0 h1 : Int) (i : Nat) : Prop where
  len : M.length = 128
  c0 : chn M L0.reverse h0
  c1 : chn M L1.reverse h1
  m0 : ∀ x ∈ L0, x ∈ l.take i
  m1 : ∀ x ∈ L1, x ∈ l.take i
  n0 : L0.length ≤ i
  n1 : L1.length ≤ i
theorem rd0_take {l : List Int} {i : Nat} (hi : i < l.length) : l.take (i + 1) = l.take i ++ [rd0 l i] := by
  rw [List.take_succ_eq_append_getElem hi]
  congr 2
  unfold rd0
  rw [List.getD_eq_getElem?_getD, List.getElem?_eq_getElem hi]
  rfl
theorem rd0_new {l : List Int} (hN : l.Nodup) {i : Nat} (hi : i < l.length) : ¬ rd0 l i ∈ l.take i := fun h => by
  have e : l = l.take i ++ rd0 l i :: l.drop (i + 1) := by
    have h1 := List.take_append_drop (i + 1) l
    rw [rd0_take hi, List.append_assoc] at h1
    exact h1.symm
  rw [e] at hN
  have h2 := (List.nodup_append.1 hN).2.2 (rd0 l i) h (rd0 l i) List.mem_cons_self
  exact h2 rfl
theorem rd0_mem {l : List Int} {i : Nat} (hi : i < l.length) : rd0 l i ∈ l := by
  unfold rd0
  rw [List.getD_eq_getElem?_getD, List.getElem?_eq_getElem hi]
  exact List.getElem_mem _
section
variable {l M L0 L1 : List Int} {h0 h1 : Int} {i : Nat} (hL : ∀ x ∈ l, 0 ≤ x ∧ x < ((128 : Nat) : Int))
include hL
theorem CS.in0 (s : CS l M L0 L1 h0 h1 i) : ∀ y ∈ L0.reverse, 0 ≤ y ∧ y < (M.length : Int) := fun y hy => by
  have := hL y (List.mem_of_mem_take (s.m0 y (by simpa using hy)))
  rw [s.len]
  exact this
theorem CS.in1 (s : CS l M L0 L1 h0 h1 i) : ∀ y ∈ L1.reverse, 0 ≤ y ∧ y < (M.length : Int) := fun y hy => by
  have := hL y (List.mem_of_mem_take (s.m1 y (by simpa using hy)))
  rw [s.len]
  exact this
theorem CS.hd0 (s : CS l M L0 L1 h0 h1 i) : 0 ≤ h0 ∧ h0 ≤ (M.length : Int) := chn_in M (M.length : Int) (by omega) _ _ (s.in0 hL) s.c0
theorem CS.push0 (s : CS l M L0 L1 h0 h1 i) (hN : l.Nodup) (hi : i < l.length) : CS l (M.set (rd0 l i).toNat h0) (L0 ++ [rd0 l i]) L1 (rd0 l i + 1) h1 (i + 1) := by
  have hx := hL _ (rd0_mem hi)
  have hnew := rd0_new hN hi
  have e0 : ∀ y ∈ L0.reverse, 0 ≤ y ∧ y ≠ rd0 l i := fun y hy => ⟨(s.in0 hL y hy).1, fun e => hnew (by rw [← e]; exact s.m0 y (by simpa using hy))⟩
  have e1 : ∀ y ∈ L1.reverse, 0 ≤ y ∧ y ≠ rd0 l i := fun y hy => ⟨(s.in1 hL y hy).1, fun e => hnew (by rw [← e]; exact s.m1 y (by simpa using hy))⟩
  have f0 : chn (M.set (rd0 l i).toNat h0) (L0 ++ [rd0 l i]).reverse (rd0 l i + 1) := by
    rw [List.reverse_append]
    exact chn_push M (rd0 l i) L0.reverse h0 (by rw [s.len]; exact hx) e0 s.c0
  have f1 : chn (M.set (rd0 l i).toNat h0) L1.reverse h1 := chn_far M (rd0 l i) h0 hx.1 L1.reverse h1 e1 s.c1
  have g0 : ∀ x ∈ L0 ++ [rd0 l i], x ∈ l.take (i + 1) := fun x hxm => by
    rw [rd0_take hi]
    rcases List.mem_append.1 hxm with h | h
    · exact List.mem_append.2 (.inl (s.m0 x h))
    · exact List.mem_append.2 (.inr h)
  have g1 : ∀ x ∈ L1, x ∈ l.take (i + 1) := fun x hxm => by
    rw [rd0_take hi]
    exact List.mem_append.2 (.inl (s.m1 x hxm))
  have k0 := s.n0
  have k1 := s.n1
  have j0 : (L0 ++ [rd0 l i]).length ≤ i + 1 := by rw [List.length_append]; simp; omega
  have j1 : L1.length ≤ i + 1 := by omega
  exact ⟨by rw [List.length_set]; exact s.len, f0, f1, g0, g1, j0, j1⟩
theorem CS.pop0 {X : List Int} {y : Int} (s : CS l M (X ++ [y]) L1 h0 h1 i) : popS M h0 = (y, rd0 M y.toNat, 0) ∧ CS l M X L1 (rd0 M y.toNat) h1 i := by
  have hin := s.in0 hL
  have hc := s.c0
  have hn := s.n0
  rw [List.reverse_append] at hin hc
  rw [List.length_append] at hn
  simp at hn
  have h1 := popS_chn M y X.reverse h0 (by have := s.len; omega) (hin y (by simp)) (fun z hz => hin z (by simp; simp at hz; exact .inr hz)) hc
  have d0 : chn M X.reverse (rd0 M y.toNat) := hc.2
  have d1 := s.c1
  have m0 : ∀ x ∈ X, x ∈ l.take i := fun x hx => s.m0 x (List.mem_append.2 (.inl hx))
  have m1 := s.m1
  have k0 : X.length ≤ i := by omega
  have k1 := s.n1
  exact ⟨h1, s.len, d0, d1, m0, m1, k0, k1⟩
theorem CS.walk0 (s : CS l M L0 L1 h0 h1 i) (hi : i ≤ 128) : walkT M h0 200 = (L0.reverse, 0) := walkT_chn M (by have := s.len; omega) L0.reverse h0 200 (s.in0 hL) s.c0 (by rw [List.length_reverse]; have := s.n0; show L0.length ≤ 200; omega)
theorem CS.hd1 (s : CS l M L0 L1 h0 h1 i) : 0 ≤ h1 ∧ h1 ≤ (M.length : Int) := chn_in M (M.length : Int) (by omega) _ _ (s.in1 hL) s.c1
theorem CS.push1 (s : CS l M L0 L1 h0 h1 i) (hN : l.Nodup) (hi : i < l.length) : CS l (M.set (rd0 l i).toNat h1) L0 (L1 ++ [rd0 l i]) h0 (rd0 l i + 1) (i + 1) := by
  have hx := hL _ (rd0_mem hi)
  have hnew := rd0_new hN hi
  have e1 : ∀ y ∈ L1.reverse, 0 ≤ y ∧ y ≠ rd0 l i := fun y hy => ⟨(s.in1 hL y hy).1, fun e => hnew (by rw [← e]; exact s.m1 y (by simpa using hy))⟩
  have e0 : ∀ y ∈ L0.reverse, 0 ≤ y ∧ y ≠ rd0 l i := fun y hy => ⟨(s.in0 hL y hy).1, fun e => hnew (by rw [← e]; exact s.m0 y (by simpa using hy))⟩
  have f1 : chn (M.set (rd0 l i).toNat h1) (L1 ++ [rd0 l i]).reverse (rd0 l i + 1) := by
    rw [List.reverse_append]
    exact chn_push M (rd0 l i) L1.reverse h1 (by rw [s.len]; exact hx) e1 s.c1
  have f0 : chn (M.set (rd0 l i).toNat h1) L0.reverse h0 := chn_far M (rd0 l i) h1 hx.1 L0.reverse h0 e0 s.c0
  have g1 : ∀ x ∈ L1 ++ [rd0 l i], x ∈ l.take (i + 1) := fun x hxm => by
    rw [rd0_take hi]
    rcases List.mem_append.1 hxm with h | h
    · exact List.mem_append.2 (.inl (s.m1 x h))
    · exact List.mem_append.2 (.inr h)
  have g0 : ∀ x ∈ L0, x ∈ l.take (i + 1) := fun x hxm => by
    rw [rd0_take hi]
    exact List.mem_append.2 (.inl (s.m0 x hxm))
  have k1 := s.n1
  have k0 := s.n0
  have j1 : (L1 ++ [rd0 l i]).length ≤ i + 1 := by rw [List.length_append]; simp; omega
  have j0 : L0.length ≤ i + 1 := by omega
  exact ⟨by rw [List.length_set]; exact s.len, f0, f1, g0, g1, j0, j1⟩
theorem CS.pop1 {X : List Int} {y : Int} (s : CS l M L0 (X ++ [y]) h0 h1 i) : popS M h1 = (y, rd0 M y.toNat, 0) ∧ CS l M L0 X h0 (rd0 M y.toNat) i := by
  have hin := s.in1 hL
  have hc := s.c1
  have hn := s.n1
  rw [List.reverse_append] at hin hc
  rw [List.length_append] at hn
  simp at hn
  have h0 := popS_chn M y X.reverse h1 (by have := s.len; omega) (hin y (by simp)) (fun z hz => hin z (by simp; simp at hz; exact .inr hz)) hc
  have d1 : chn M X.reverse (rd0 M y.toNat) := hc.2
  have d0 := s.c0
  have m1 : ∀ x ∈ X, x ∈ l.take i := fun x hx => s.m1 x (List.mem_append.2 (.inl hx))
  have m0 := s.m0
  have k1 : X.length ≤ i := by omega
  have k0 := s.n0
  exact ⟨h0, s.len, d0, d1, m0, m1, k0, k1⟩
theorem CS.walk1 (s : CS l M L0 L1 h0 h1 i) (hi : i ≤ 128) : walkT M h1 200 = (L1.reverse, 0) := walkT_chn M (by have := s.len; omega) L1.reverse h1 200 (s.in1 hL) s.c1 (by rw [List.length_reverse]; have := s.n1; show L1.length ≤ 200; omega)
end
end Go.Proofs.Ytncmebefgklpjaa
