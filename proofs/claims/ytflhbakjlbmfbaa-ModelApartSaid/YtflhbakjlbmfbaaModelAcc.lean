/- How far deeds are accepted. No statement is proved here. -/
import Derived.Test.YtflhbakjlbmfbaaModelCalls
namespace Go.Proofs.Ytflhbakjlbmfbaa.Pure
open Go.RowKit Go.Proofs.Ytflhbakjlbmfbaa.Pr Go.Proofs.YtflhbakjlbmfbaaW.PrintWords Go.Proofs.YtflhbakjlbmfbaaW.PrintLast Go.Proofs.YtflhbakjlbmfbaaW.PrintMore
set_option linter.unusedVariables false
set_option linter.unusedSimpArgs false
abbrev De := S71
/-! ### Deeds -/
def accR (m : Int) (l : List Lv) (d : De) : Int × List Lv × Bool :=
 if d.f0 = 1 ∧ d.f3 = 0 then allocR m l d.f1 d.f2
 else if d.f0 = 1 ∧ d.f3 = 3 then (m, l, (clsR d.f1).2)
 else if d.f0 = 1 ∧ d.f3 = 1 then (m, l, !(clsR d.f1).2)
 else if d.f0 = 2 ∧ d.f3 = 0 then ((freeR m l d.f2).1, (freeR m l d.f2).2.1, (freeR m l d.f2).2.2 == 0)
 else if d.f0 = 2 ∧ d.f3 = 2 then (m, l, !(findR l d.f2).2.2.2)
 else (m, l, false)
/-- How far deeds are accepted: the list there, how many, whether all are. -/
def accsL (m : Int) (l : List Lv) : List De → List Lv × Nat × Bool
 | [] => (l, 0, true)
 | d :: D => if (accR m l d).2.2 = true then ((accsL m (accR m l d).2.1 D).1, (accsL m (accR m l d).2.1 D).2.1 + 1, (accsL m (accR m l d).2.1 D).2.2) else (l, 0, false)
theorem accR_ok {m : Int} (hm : mOk m) {l : List Lv} (hr : rtL m l) {d : De} (h : (accR m l d).2.2 = true) : (accR m l d).1 = m ∧ rtL m (accR m l d).2.1 ∧ (accR m l d).2.1.length ≤ l.length + 1 := by
 unfold accR at h ⊢
 split
 next c =>
  rw [if_pos c] at h
  unfold allocR at h ⊢
  cases e : allocL m l d.f1 d.f2 with
  | none => rw [e] at h; cases h
  | some q =>
   obtain ⟨h1, h2⟩ := allocL_rt hm hr e
   exact ⟨rfl, h1, by dsimp only; omega⟩
 next c =>
  rw [if_neg c] at h
  split
  next => exact ⟨rfl, hr, by dsimp only; omega⟩
  next c2 =>
   rw [if_neg c2] at h
   split
   next => exact ⟨rfl, hr, by dsimp only; omega⟩
   next c3 =>
    rw [if_neg c3] at h
    split
    next c4 =>
     rw [if_pos c4] at h
     unfold freeR at h ⊢
     cases e : findL d.f2 l with
     | none => rw [e] at h; cases h
     | some q => exact ⟨rfl, delL_rt hr, by have := delL_len d.f2 l; dsimp only; omega⟩
    next c4 =>
     split
     ·exact ⟨rfl, hr, by dsimp only; omega⟩
     ·exact ⟨rfl, hr, by dsimp only; omega⟩
end Go.Proofs.Ytflhbakjlbmfbaa.Pure
