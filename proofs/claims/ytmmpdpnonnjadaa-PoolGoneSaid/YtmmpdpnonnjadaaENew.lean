/- A new arena: a contract. No statement is proved here. -/
import Derived.Test.YtmmpdpnonnjadaaArena
import Derived.Test.YtmmpdpnonnjadaaPrx
namespace Go.Proofs.Ytmmpdpnonnjadaa
set_option linter.unusedVariables false
set_option linter.unusedSimpArgs false
open Go.RowKit Go.Proofs.YtmmpdpnonnjadaaW.PrintWords Go.Proofs.YtmmpdpnonnjadaaW.PrintLast

set_option maxHeartbeats 400000 in
theorem new_no (n : Int) (w : World) (h : n < 1 ∨ 256 < n) :
    Calls Try.prog 9 #[.int .i64 n] w fun e w' => e = .returned (.pointer none) ∧ w = w' := by
  by_cases h1 : n < 1
  · clear h
    go_enter Try.func9, Try.ntmps9
    go_wp2
    go_ret
    exact ⟨rfl, rfl⟩
  · have h2 : 256 < n := by omega
    have h3 : 1 ≤ n := by omega
    clear h h1
    go_enter Try.func9, Try.ntmps9
    go_wp2
    go_ret
    exact ⟨rfl, rfl⟩

/-- A new arena of n pages. -/
def NewAr (n : Nat) (w : World) (e : Ending) (w' : World) : Prop :=
  ∃ ga gb, e = .returned (.pointer (some ⟨ga, 0, none⟩)) ∧ Ar w' ga gb (List.replicate (n * 64) 0) ∧ w.heap.size ≤ ga ∧ w.heap.size ≤ gb ∧ Below w.heap.size w w'
set_option maxHeartbeats 400000 in
theorem new_any (n : Int) (w : World) (h0 : 1 ≤ n) (h1 : n ≤ 256) :
    Calls Try.prog 9 #[.int .i64 n] w (NewAr n.toNat w) := by
  have hmk := fun w => run_make_u64 (n * 64) (by omega) (by omega) w
  have he : (n * 64).toNat = n.toNat * 64 := by omega
  have HE := Sh.mk he
  clear he
  go_enter Try.func9, Try.ntmps9
  go_wp2
  go_ret
  refine ⟨w.heap.size + 1, w.heap.size, rfl, ⟨?_, ?_, ?_⟩, by omega, by omega, ((Below.refl _ _).alloc (Nat.le_refl _) _).alloc (by simp) _⟩
  · rw [List.length_replicate, ← HE.out]
    exact Blk.new_ _ _ _ (by simp)
  · rw [← HE.out]
    exact (Blk.new _ _ _).alloc _
  · rw [List.length_replicate]
    omega
end Go.Proofs.Ytmmpdpnonnjadaa
