/- Several texts in one: AccCalls, DeedCalls. -/
import Derived.Test.YtflhbakjlbmfbaaModelCalls
import Derived.Test.YtflhbakjlbmfbaaAccepts
import Derived.Test.YtflhbakjlbmfbaaDeeds
/- Accepts: a contract that reads. No statement is proved here. -/
namespace Go.Proofs.Ytflhbakjlbmfbaa
set_option linter.unusedVariables false
set_option linter.unusedSimpArgs false
open Go.RowKit Go.Proofs.YtflhbakjlbmfbaaW.PrintWords Go.Proofs.YtflhbakjlbmfbaaW.PrintLast Go.Proofs.YtflhbakjlbmfbaaW.PrintMore Pr Go.Proofs.Ytflhbakjlbmfbaa.Pure

section
variable {m : Int} {v : Value} {l : List Lv} {w : World}
theorem accepts_anyR (hm : mOk m) (hr : rtL m l) {D : List De} (hlen : l.length + D.length ≤ 1000) (h : Rd w v l) {B : Option Addr} {cd : Nat} (hD : Kd.C k71 w B D.length D) (hcd : D.length ≤ cd) :
    Calls Try.prog 35 #[.agg #[.int .i64 m, v], .slice B D.length cd] w fun e w' => ∃ u, e = .returned (.tuple #[.agg #[.int .i64 m, u], .int .i64 ((accsL m l D).2.1 : Nat), .bool (accsL m l D).2.2]) ∧ Rd w' u (accsL m l D).1 ∧ Below w.heap.size w w' := by
  obtain ⟨A, c, rfl, h2, h3⟩ := h
  exact (accepts_any m A c l B cd D w hm hr hlen h3 h2 hD hcd).mono (fun e w' ⟨A', c', h4, h5, h6, h7⟩ => ⟨_, h4, Rd.ofF h5 h6, h7⟩)
end
end Go.Proofs.Ytflhbakjlbmfbaa

/- Deeds by numbers, and how far they are accepted: contracts that read, and what they answer. No statement is proved here. -/
namespace Go.Proofs.Ytflhbakjlbmfbaa
set_option linter.unusedVariables false
set_option linter.unusedSimpArgs false
open Go.RowKit Go.Proofs.YtflhbakjlbmfbaaW.PrintWords Go.Proofs.YtflhbakjlbmfbaaW.PrintLast Go.Proofs.YtflhbakjlbmfbaaW.PrintMore Pr Go.Proofs.Ytflhbakjlbmfbaa.Pure

theorem deeds_anyR {m : Int} {A : Option Addr} {c : Nat} {l : List Int} {w : World} (hm : mOk m) (hr : Kd.C (Kd.int .u8) w A l.length l) (hc : l.length ≤ c) (hu8 : ∀ x ∈ l, (Lit.int .u8 x).wf = true) (hmax : l.length ≤ 140737488351232) :
    Calls Try.prog 34 #[.int .i64 m, .slice A l.length c] w fun e w' => ∃ (B : Option Addr) (cd : Nat), e = .returned (.slice B (deedsG m [] l 0).length cd) ∧ (deedsG m [] l 0).length ≤ cd ∧ Kd.C k71 w' B (deedsG m [] l 0).length (deedsG m [] l 0) ∧ Below w.heap.size w w' :=
  (deeds_any m A c l w hm hr hc hu8 hmax).mono (fun e w' ⟨v, h1, h2, h3⟩ => by
    obtain ⟨B, cd, e2⟩ := Kd.R_slice h2
    subst e2
    exact ⟨B, cd, h1, (Kd.R_reads' h2).2.1, (Kd.R_reads' h2).2.2, h3⟩)
theorem deedsG_len (m : Int) : ∀ (k : Nat) (l : List Int) (q : List Lv) (c : Nat), l.length ≤ k → c ≤ 100 → (deedsG m q l c).length + c ≤ 100 := by
  intro k
  induction k with
  | zero =>
    intro l q c hl hc
    rw [deedsG_short m q l c (by omega)]
    simpa using hc
  | succ k ih =>
    intro l q c hl hc
    match l, hl with
    | [], _ => simpa [deedsG] using hc
    | [_], _ => simpa [deedsG] using hc
    | [_, _], _ => simpa [deedsG] using hc
    | [_, _, _], _ => simpa [deedsG] using hc
    | n0 :: n1 :: n2 :: n3 :: ns, hl =>
      rw [deedsG]
      split
      · next h =>
        have := ih ns (deedR m q n0 n1 n2 n3).2 (c + 1) (by simp at hl; omega) (by omega)
        rw [List.length_cons]
        omega
      · simpa using hc
theorem deeds_len (m : Int) (l : List Int) : (deedsG m [] l 0).length ≤ 100 := by
  have := deedsG_len m l.length l [] 0 (Nat.le_refl _) (by omega)
  omega
theorem accs_rt {m : Int} (hm : mOk m) (D : List De) : ∀ l : List Lv, rtL m l → rtL m (accsL m l D).1 ∧ (accsL m l D).1.length ≤ l.length + D.length := by
  induction D with
  | nil => intro l h; exact ⟨h, Nat.le_refl _⟩
  | cons d D ih =>
    intro l h
    rw [accsL]
    split
    · next c =>
      obtain ⟨h1, h2, h3⟩ := accR_ok hm h c
      obtain ⟨h4, h5⟩ := ih _ h2
      exact ⟨h4, by rw [List.length_cons]; dsimp only; omega⟩
    · exact ⟨h, by simp⟩
theorem accs_app (m : Int) (P S : List De) : ∀ l : List Lv, ((accsL m l P).2.2 = true → (accsL m l P).2.1 = P.length ∧ accsL m l (P ++ S) = ((accsL m (accsL m l P).1 S).1, P.length + (accsL m (accsL m l P).1 S).2.1, (accsL m (accsL m l P).1 S).2.2)) ∧ ((accsL m l P).2.2 = false → accsL m l (P ++ S) = accsL m l P) := by
  induction P with
  | nil => intro l; exact ⟨fun _ => ⟨rfl, by simp [accsL]⟩, fun h => by simp [accsL] at h⟩
  | cons d P ih =>
    intro l
    rw [List.cons_append, accsL, accsL]
    split
    · obtain ⟨h1, h2⟩ := ih (accR m l d).2.1
      refine ⟨fun h => ?_, fun h => ?_⟩
      · obtain ⟨h3, h4⟩ := h1 h
        dsimp only
        rw [h4]
        exact ⟨by rw [h3, List.length_cons], by dsimp only; rw [List.length_cons]; simp only [Prod.mk.injEq, true_and, and_true]; omega⟩
      · rw [h2 h]
    · exact ⟨fun h => by simp at h, fun _ => rfl⟩
theorem accs_cut {m : Int} (D : List De) (K : Nat) (hK : K ≤ D.length) {q : List Lv} {n : Nat} {ok : Bool} (h : accsL m [] (D.take K) = (q, n, ok)) :
    (ok = true → n = K ∧ accsL m [] D = ((accsL m q (D.drop K)).1, K + (accsL m q (D.drop K)).2.1, (accsL m q (D.drop K)).2.2)) ∧ (ok = false → accsL m [] D = (q, n, false)) := by
  have h1 := accs_app m (D.take K) (D.drop K) []
  rw [List.take_append_drop, h] at h1
  dsimp only at h1
  have hl : (D.take K).length = K := by rw [List.length_take]; omega
  rw [hl] at h1
  exact ⟨h1.1, fun e => by rw [h1.2 e, e]⟩
end Go.Proofs.Ytflhbakjlbmfbaa
