/- Deeds by numbers, and how far they are accepted: contracts that read, and what they answer. No statement is proved here. -/
import Derived.Test.YtpddppipjlagfaaPrx26
import Derived.Test.YtpddppipjlagfaaDeeds
namespace Go.Proofs.Ytpddppipjlagfaa
set_option linter.unusedVariables false
set_option linter.unusedSimpArgs false
open Go.RowKit Go.Proofs.YtpddppipjlagfaaW.PrintWords Go.Proofs.YtpddppipjlagfaaW.PrintLast Go.Proofs.YtpddppipjlagfaaW.PrintMore Pr Go.Proofs.Ytpddppipjlagfaa.Pure

theorem deeds_anyR {m : Int} {A : Option Addr} {c : Nat} {l : List Int} {w : World} (hm : mOk m) (hr : Kd.C (Kd.int .u8) w A l.length l) (hc : l.length ≤ c) (hu8 : ∀ x ∈ l, (Lit.int .u8 x).wf = true) (hmax : l.length ≤ 140737488351232) :
    Calls Try.prog 24 #[.int .i64 m, .slice A l.length c] w fun e w' => ∃ (B : Option Addr) (cd : Nat), e = .returned (.slice B (deedsG m [] l 0).length cd) ∧ (deedsG m [] l 0).length ≤ cd ∧ Kd.C k38 w' B (deedsG m [] l 0).length (deedsG m [] l 0) ∧ Below w.heap.size w w' :=
  (deeds_any m A c l w hm hr hc hu8 hmax).mono (fun e w' ⟨v, h1, h2, h3⟩ => by
    obtain ⟨B, cd, e2⟩ := Kd.R_slice h2
    subst e2
    exact ⟨B, cd, h1, (Kd.R_reads' h2).2.1, (Kd.R_reads' h2).2.2, h3⟩)
theorem deedsG_len (m : Int) : ∀ (k : Nat) (l : List Int) (q : List Lv) (c : Nat), l.length ≤ k → c ≤ 100 → (deedsG m q l c).length + c ≤ 100 := by
  intro k
  induction k with
  | zero =>
    intro l q c hl hc
    rw [deedsG_short m q l c (by omega)]
    simpa using hc
  | succ k ih =>
    intro l q c hl hc
    match l, hl with
    | [], _ => simpa [deedsG] using hc
    | [_], _ => simpa [deedsG] using hc
    | [_, _], _ => simpa [deedsG] using hc
    | [_, _, _], _ => simpa [deedsG] using hc
    | n0 :: n1 :: n2 :: n3 :: ns, hl =>
      rw [deedsG]
      split
      · next h =>
        have := ih ns (deedR m q n0 n1 n2 n3).2 (c + 1) (by simp at hl; omega) (by omega)
        rw [List.length_cons]
        omega
      · simpa using hc
theorem deeds_len (m : Int) (l : List Int) : (deedsG m [] l 0).length ≤ 100 := by
  have := deedsG_len m l.length l [] 0 (Nat.le_refl _) (by omega)
  omega
end Go.Proofs.Ytpddppipjlagfaa
