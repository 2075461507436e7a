/- Words, Per, Small of a class; a stack's address: contracts. No statement is proved here. -/
import Derived.Test.YtmmpdpnonnjadaaSizeOver
namespace Go.Proofs.Ytmmpdpnonnjadaa
set_option linter.unusedVariables false
set_option linter.unusedSimpArgs false
open Go.RowKit Go.Proofs.YtmmpdpnonnjadaaW.PrintWords Go.Proofs.YtmmpdpnonnjadaaW.PrintLast Go.Proofs.YtmmpdpnonnjadaaW.PrintMore Pr

set_option maxHeartbeats 400000 in
theorem words_sz (c : Int) (w : World) : Calls Try.prog 32 #[.int .i64 c] w fun e w' => e = .returned (.int .i64 (sizeRow c).1) ∧ Below w.heap.size w w' := by
  obtain ⟨r, hr⟩ : ∃ r, r = sizeRow c := ⟨_, rfl⟩
  have HS : Sh (Calls Try.prog 42 #[.int .i64 c] w fun e w' => e = .returned (.agg #[.int .i64 r.1, .int .i64 r.2.1, .int .i64 r.2.2.1, .int .i64 r.2.2.2]) ∧ Below w.heap.size w w') := ⟨by rw [hr]; exact size_any c w⟩
  rw [← hr]
  clear hr
  go_enter Try.func32, Try.ntmps32
  go_wp2_with fail
  (with_reducible refine HS.out.mono ?_); rintro e w' ⟨rfl, hb⟩
  have HB := Sh.mk hb
  clear hb
  go_wp2
  go_ret
  exact ⟨rfl, HB.out⟩
set_option maxHeartbeats 400000 in
theorem per_sz (c : Int) (w : World) : Calls Try.prog 25 #[.int .i64 c] w fun e w' => e = .returned (.int .i64 (sizeRow c).2.2.1) ∧ Below w.heap.size w w' := by
  obtain ⟨r, hr⟩ : ∃ r, r = sizeRow c := ⟨_, rfl⟩
  have HS : Sh (Calls Try.prog 42 #[.int .i64 c] w fun e w' => e = .returned (.agg #[.int .i64 r.1, .int .i64 r.2.1, .int .i64 r.2.2.1, .int .i64 r.2.2.2]) ∧ Below w.heap.size w w') := ⟨by rw [hr]; exact size_any c w⟩
  rw [← hr]
  clear hr
  go_enter Try.func25, Try.ntmps25
  go_wp2_with fail
  (with_reducible refine HS.out.mono ?_); rintro e w' ⟨rfl, hb⟩
  have HB := Sh.mk hb
  clear hb
  go_wp2
  go_ret
  exact ⟨rfl, HB.out⟩
set_option maxHeartbeats 400000 in
theorem small_sz (c : Int) (w : World) : Calls Try.prog 23 #[.int .i64 c] w fun e w' => e = .returned (.bool (decide (0 < (sizeRow c).2.2.2))) ∧ Below w.heap.size w w' := by
  obtain ⟨r, hr⟩ : ∃ r, r = sizeRow c := ⟨_, rfl⟩
  have HS : Sh (Calls Try.prog 42 #[.int .i64 c] w fun e w' => e = .returned (.agg #[.int .i64 r.1, .int .i64 r.2.1, .int .i64 r.2.2.1, .int .i64 r.2.2.2]) ∧ Below w.heap.size w w') := ⟨by rw [hr]; exact size_any c w⟩
  rw [← hr]
  clear hr
  go_enter Try.func23, Try.ntmps23
  go_wp2_with fail
  (with_reducible refine HS.out.mono ?_); rintro e w' ⟨rfl, hb⟩
  have HB := Sh.mk hb
  clear hb
  go_wp2
  go_ret
  exact ⟨rfl, HB.out⟩
/-- A class's words; how many stacks its span has. -/
def wdC (c : Int) : Int := (sizeRow c).1
def perC (c : Int) : Nat := (sizeRow c).2.2.1.toNat
theorem cls_cases {c : Int} (h : 0 ≤ c ∧ c ≤ 3) : (c = 0 ∧ wdC c = 32 ∧ perC c = 16) ∨ (c = 1 ∧ wdC c = 64 ∧ perC c = 8) ∨ (c = 2 ∧ wdC c = 128 ∧ perC c = 4) ∨ (c = 3 ∧ wdC c = 256 ∧ perC c = 2) := by
  rcases (show c = 0 ∨ c = 1 ∨ c = 2 ∨ c = 3 by omega) with rfl | rfl | rfl | rfl
  · exact .inl ⟨rfl, rfl, rfl⟩
  · exact .inr (.inl ⟨rfl, rfl, rfl⟩)
  · exact .inr (.inr (.inl ⟨rfl, rfl, rfl⟩))
  · exact .inr (.inr (.inr ⟨rfl, rfl, rfl⟩))
theorem words_c {c : Int} (h : 0 ≤ c ∧ c ≤ 3) (w : World) : Calls Try.prog 32 #[.int .i64 c] w fun e w' => e = .returned (.int .i64 (wdC c)) ∧ Below w.heap.size w w' := words_sz c w
theorem per_c {c : Int} (h : 0 ≤ c ∧ c ≤ 3) (w : World) : Calls Try.prog 25 #[.int .i64 c] w fun e w' => e = .returned (.int .i64 (perC c : Int)) ∧ Below w.heap.size w w' := by
  have h1 := per_sz c w
  have h2 : (sizeRow c).2.2.1 = (perC c : Int) := by
    rcases (show c = 0 ∨ c = 1 ∨ c = 2 ∨ c = 3 by omega) with rfl | rfl | rfl | rfl <;> rfl
  rw [h2] at h1
  exact h1
set_option maxHeartbeats 1000000 in
theorem address_any (gp : Nat) (c : Int) (v : Value) (page k : Int) (w : World) (hc : 0 ≤ c ∧ c ≤ 3) (hp : Blk w gp 61 #[.int .i64 c, v]) (h0 : 0 ≤ page ∧ page ≤ 1000) (h1 : 0 ≤ k ∧ k ≤ 1000) :
    Calls Try.prog 27 #[.pointer (some ⟨gp, 0, none⟩), .int .i64 page, .int .i64 k] w fun e w' => e = .returned (.int .i64 (page * 64 + k * wdC c)) ∧ Below w.heap.size w w' := by
  have hcc := (hp.cell 0).trans (show _ = some (Value.int .i64 c) from rfl)
  obtain ⟨x, hx⟩ : ∃ x, x = wdC c := ⟨_, rfl⟩
  have hxb : 32 ≤ x ∧ x ≤ 256 := by rcases cls_cases hc with h | h | h | h <;> omega
  have HW : Sh (∀ W, Calls Try.prog 32 #[.int .i64 c] W fun e w' => e = .returned (.int .i64 x) ∧ Below W.heap.size W w') := ⟨fun W => by rw [hx]; exact words_c hc W⟩
  rw [← hx]
  clear hx
  have hm : 0 ≤ k * x ∧ k * x ≤ 256000 := ⟨Int.mul_nonneg h1.1 (by omega), by
    have := Int.mul_le_mul h1.2 hxb.2 (by omega) (by omega : (0 : Int) ≤ 1000)
    omega⟩
  have v1 : IntKind.i64.wrap (page * 64) = page * 64 := by rw [IntKind.wrap_i64]; omega
  have v2 : IntKind.i64.wrap (k * x) = k * x := by rw [IntKind.wrap_i64]; omega
  have v3 : IntKind.i64.wrap (page * 64 + k * x) = page * 64 + k * x := by rw [IntKind.wrap_i64]; omega
  clear hm hxb h0 h1 hc hp
  go_enter Try.func27, Try.ntmps27
  go_wp2_with fail
  (with_reducible refine (HW.out _).mono ?_); rintro e w' ⟨rfl, hb⟩
  have HB := Sh.mk hb
  clear hb
  go_wp2
  go_ret
  exact ⟨rfl, HB.out⟩
end Go.Proofs.Ytmmpdpnonnjadaa
