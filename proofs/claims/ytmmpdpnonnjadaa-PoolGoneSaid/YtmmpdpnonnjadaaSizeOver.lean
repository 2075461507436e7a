/- size.of, num.Over: contracts. No statement is proved here. -/
import Derived.Test.YtmmpdpnonnjadaaBase
namespace Go.Proofs.Ytmmpdpnonnjadaa
set_option linter.unusedVariables false
set_option linter.unusedSimpArgs false
open Go.RowKit Go.Proofs.YtmmpdpnonnjadaaW.PrintWords Go.Proofs.YtmmpdpnonnjadaaW.PrintLast Go.Proofs.YtmmpdpnonnjadaaW.PrintMore Pr

theorem idx8_0 (w : World) : (Instr.index 92 (.agg #[.int .i64 32, .int .i64 8, .int .i64 16, .int .i64 4, .int .i64 64, .int .i64 8, .int .i64 8, .int .i64 3, .int .i64 128, .int .i64 8, .int .i64 4, .int .i64 2, .int .i64 256, .int .i64 8, .int .i64 2, .int .i64 1, .int .i64 512, .int .i64 8, .int .i64 1, .int .i64 0, .int .i64 1024, .int .i64 16, .int .i64 1, .int .i64 0, .int .i64 2048, .int .i64 32, .int .i64 1, .int .i64 0, .int .i64 4096, .int .i64 64, .int .i64 1, .int .i64 0]) (.int .i64 0)).run Try.prog w = .ok (.agg #[.int .i64 32, .int .i64 8, .int .i64 16, .int .i64 4]) w := by
  obtain ⟨i0, hi0, hz0, hz1, hz2⟩ := info_parts (show (Try.prog.info? 84).map (fun i => (i.zero, i.size, i.bytes)) = some (some (.agg #[.int .i64 0, .int .i64 0, .int .i64 0, .int .i64 0]), 4, 32) from by kernel_rfl)
  simp [Instr.index, run_underlying Try.underlying92, asIntOf, sizeOf, typeInfo, hi0, hz1, part, go_sem]
theorem idx8_1 (w : World) : (Instr.index 92 (.agg #[.int .i64 32, .int .i64 8, .int .i64 16, .int .i64 4, .int .i64 64, .int .i64 8, .int .i64 8, .int .i64 3, .int .i64 128, .int .i64 8, .int .i64 4, .int .i64 2, .int .i64 256, .int .i64 8, .int .i64 2, .int .i64 1, .int .i64 512, .int .i64 8, .int .i64 1, .int .i64 0, .int .i64 1024, .int .i64 16, .int .i64 1, .int .i64 0, .int .i64 2048, .int .i64 32, .int .i64 1, .int .i64 0, .int .i64 4096, .int .i64 64, .int .i64 1, .int .i64 0]) (.int .i64 1)).run Try.prog w = .ok (.agg #[.int .i64 64, .int .i64 8, .int .i64 8, .int .i64 3]) w := by
  obtain ⟨i0, hi0, hz0, hz1, hz2⟩ := info_parts (show (Try.prog.info? 84).map (fun i => (i.zero, i.size, i.bytes)) = some (some (.agg #[.int .i64 0, .int .i64 0, .int .i64 0, .int .i64 0]), 4, 32) from by kernel_rfl)
  simp [Instr.index, run_underlying Try.underlying92, asIntOf, sizeOf, typeInfo, hi0, hz1, part, go_sem]
theorem idx8_2 (w : World) : (Instr.index 92 (.agg #[.int .i64 32, .int .i64 8, .int .i64 16, .int .i64 4, .int .i64 64, .int .i64 8, .int .i64 8, .int .i64 3, .int .i64 128, .int .i64 8, .int .i64 4, .int .i64 2, .int .i64 256, .int .i64 8, .int .i64 2, .int .i64 1, .int .i64 512, .int .i64 8, .int .i64 1, .int .i64 0, .int .i64 1024, .int .i64 16, .int .i64 1, .int .i64 0, .int .i64 2048, .int .i64 32, .int .i64 1, .int .i64 0, .int .i64 4096, .int .i64 64, .int .i64 1, .int .i64 0]) (.int .i64 2)).run Try.prog w = .ok (.agg #[.int .i64 128, .int .i64 8, .int .i64 4, .int .i64 2]) w := by
  obtain ⟨i0, hi0, hz0, hz1, hz2⟩ := info_parts (show (Try.prog.info? 84).map (fun i => (i.zero, i.size, i.bytes)) = some (some (.agg #[.int .i64 0, .int .i64 0, .int .i64 0, .int .i64 0]), 4, 32) from by kernel_rfl)
  simp [Instr.index, run_underlying Try.underlying92, asIntOf, sizeOf, typeInfo, hi0, hz1, part, go_sem]
theorem idx8_3 (w : World) : (Instr.index 92 (.agg #[.int .i64 32, .int .i64 8, .int .i64 16, .int .i64 4, .int .i64 64, .int .i64 8, .int .i64 8, .int .i64 3, .int .i64 128, .int .i64 8, .int .i64 4, .int .i64 2, .int .i64 256, .int .i64 8, .int .i64 2, .int .i64 1, .int .i64 512, .int .i64 8, .int .i64 1, .int .i64 0, .int .i64 1024, .int .i64 16, .int .i64 1, .int .i64 0, .int .i64 2048, .int .i64 32, .int .i64 1, .int .i64 0, .int .i64 4096, .int .i64 64, .int .i64 1, .int .i64 0]) (.int .i64 3)).run Try.prog w = .ok (.agg #[.int .i64 256, .int .i64 8, .int .i64 2, .int .i64 1]) w := by
  obtain ⟨i0, hi0, hz0, hz1, hz2⟩ := info_parts (show (Try.prog.info? 84).map (fun i => (i.zero, i.size, i.bytes)) = some (some (.agg #[.int .i64 0, .int .i64 0, .int .i64 0, .int .i64 0]), 4, 32) from by kernel_rfl)
  simp [Instr.index, run_underlying Try.underlying92, asIntOf, sizeOf, typeInfo, hi0, hz1, part, go_sem]
theorem idx8_4 (w : World) : (Instr.index 92 (.agg #[.int .i64 32, .int .i64 8, .int .i64 16, .int .i64 4, .int .i64 64, .int .i64 8, .int .i64 8, .int .i64 3, .int .i64 128, .int .i64 8, .int .i64 4, .int .i64 2, .int .i64 256, .int .i64 8, .int .i64 2, .int .i64 1, .int .i64 512, .int .i64 8, .int .i64 1, .int .i64 0, .int .i64 1024, .int .i64 16, .int .i64 1, .int .i64 0, .int .i64 2048, .int .i64 32, .int .i64 1, .int .i64 0, .int .i64 4096, .int .i64 64, .int .i64 1, .int .i64 0]) (.int .i64 4)).run Try.prog w = .ok (.agg #[.int .i64 512, .int .i64 8, .int .i64 1, .int .i64 0]) w := by
  obtain ⟨i0, hi0, hz0, hz1, hz2⟩ := info_parts (show (Try.prog.info? 84).map (fun i => (i.zero, i.size, i.bytes)) = some (some (.agg #[.int .i64 0, .int .i64 0, .int .i64 0, .int .i64 0]), 4, 32) from by kernel_rfl)
  simp [Instr.index, run_underlying Try.underlying92, asIntOf, sizeOf, typeInfo, hi0, hz1, part, go_sem]
theorem idx8_5 (w : World) : (Instr.index 92 (.agg #[.int .i64 32, .int .i64 8, .int .i64 16, .int .i64 4, .int .i64 64, .int .i64 8, .int .i64 8, .int .i64 3, .int .i64 128, .int .i64 8, .int .i64 4, .int .i64 2, .int .i64 256, .int .i64 8, .int .i64 2, .int .i64 1, .int .i64 512, .int .i64 8, .int .i64 1, .int .i64 0, .int .i64 1024, .int .i64 16, .int .i64 1, .int .i64 0, .int .i64 2048, .int .i64 32, .int .i64 1, .int .i64 0, .int .i64 4096, .int .i64 64, .int .i64 1, .int .i64 0]) (.int .i64 5)).run Try.prog w = .ok (.agg #[.int .i64 1024, .int .i64 16, .int .i64 1, .int .i64 0]) w := by
  obtain ⟨i0, hi0, hz0, hz1, hz2⟩ := info_parts (show (Try.prog.info? 84).map (fun i => (i.zero, i.size, i.bytes)) = some (some (.agg #[.int .i64 0, .int .i64 0, .int .i64 0, .int .i64 0]), 4, 32) from by kernel_rfl)
  simp [Instr.index, run_underlying Try.underlying92, asIntOf, sizeOf, typeInfo, hi0, hz1, part, go_sem]
theorem idx8_6 (w : World) : (Instr.index 92 (.agg #[.int .i64 32, .int .i64 8, .int .i64 16, .int .i64 4, .int .i64 64, .int .i64 8, .int .i64 8, .int .i64 3, .int .i64 128, .int .i64 8, .int .i64 4, .int .i64 2, .int .i64 256, .int .i64 8, .int .i64 2, .int .i64 1, .int .i64 512, .int .i64 8, .int .i64 1, .int .i64 0, .int .i64 1024, .int .i64 16, .int .i64 1, .int .i64 0, .int .i64 2048, .int .i64 32, .int .i64 1, .int .i64 0, .int .i64 4096, .int .i64 64, .int .i64 1, .int .i64 0]) (.int .i64 6)).run Try.prog w = .ok (.agg #[.int .i64 2048, .int .i64 32, .int .i64 1, .int .i64 0]) w := by
  obtain ⟨i0, hi0, hz0, hz1, hz2⟩ := info_parts (show (Try.prog.info? 84).map (fun i => (i.zero, i.size, i.bytes)) = some (some (.agg #[.int .i64 0, .int .i64 0, .int .i64 0, .int .i64 0]), 4, 32) from by kernel_rfl)
  simp [Instr.index, run_underlying Try.underlying92, asIntOf, sizeOf, typeInfo, hi0, hz1, part, go_sem]
theorem idx8_7 (w : World) : (Instr.index 92 (.agg #[.int .i64 32, .int .i64 8, .int .i64 16, .int .i64 4, .int .i64 64, .int .i64 8, .int .i64 8, .int .i64 3, .int .i64 128, .int .i64 8, .int .i64 4, .int .i64 2, .int .i64 256, .int .i64 8, .int .i64 2, .int .i64 1, .int .i64 512, .int .i64 8, .int .i64 1, .int .i64 0, .int .i64 1024, .int .i64 16, .int .i64 1, .int .i64 0, .int .i64 2048, .int .i64 32, .int .i64 1, .int .i64 0, .int .i64 4096, .int .i64 64, .int .i64 1, .int .i64 0]) (.int .i64 7)).run Try.prog w = .ok (.agg #[.int .i64 4096, .int .i64 64, .int .i64 1, .int .i64 0]) w := by
  obtain ⟨i0, hi0, hz0, hz1, hz2⟩ := info_parts (show (Try.prog.info? 84).map (fun i => (i.zero, i.size, i.bytes)) = some (some (.agg #[.int .i64 0, .int .i64 0, .int .i64 0, .int .i64 0]), 4, 32) from by kernel_rfl)
  simp [Instr.index, run_underlying Try.underlying92, asIntOf, sizeOf, typeInfo, hi0, hz1, part, go_sem]
attribute [local go_sem ↓] idx8_0 idx8_1 idx8_2 idx8_3 idx8_4 idx8_5 idx8_6 idx8_7
/-- A class's row. -/
def sizeRow (c : Int) : Int × Int × Int × Int :=
  if c = 0 then (32, 8, 16, 4) else if c = 1 then (64, 8, 8, 3) else if c = 2 then (128, 8, 4, 2) else if c = 3 then (256, 8, 2, 1)
  else if c = 4 then (512, 8, 1, 0) else if c = 5 then (1024, 16, 1, 0) else if c = 6 then (2048, 32, 1, 0) else if c = 7 then (4096, 64, 1, 0) else (0, 0, 0, 0)
def SizePost (c : Int) (w : World) (e : Ending) (w' : World) : Prop := e = .returned (.agg #[.int .i64 (sizeRow c).1, .int .i64 (sizeRow c).2.1, .int .i64 (sizeRow c).2.2.1, .int .i64 (sizeRow c).2.2.2]) ∧ Below w.heap.size w w'
set_option maxRecDepth 1000000 in
set_option maxHeartbeats 4000000 in
theorem size_any (c : Int) (w : World) : Calls Try.prog 42 #[.int .i64 c] w (SizePost c w) := by
  have hB0 := below_alloc (Below.refl w.heap.size w) (.cells #[.int .i64 0, .int .i64 0, .int .i64 0, .int .i64 0] 84)
  by_cases c1 : c < 0
  · have b1 : decide (c < 0) = true := decide_eq_true c1
    have HZ : Sh (sizeRow c = (0, 0, 0, 0)) := ⟨by unfold sizeRow; repeat (rw [if_neg (by omega)])⟩
    have HB := Sh.mk hB0
    clear c1 hB0
    go_enter Try.func42, Try.ntmps42
    go_wp2
    exact bodyPost_ret (v := .agg #[.int .i64 0, .int .i64 0, .int .i64 0, .int .i64 0]) (by simp [results, Try.results42, go_sem]) rfl ⟨by rw [HZ.out], HB.out⟩
  · have b1 : decide (c < 0) = false := decide_eq_false c1
    by_cases c2 : 8 ≤ c
    · have b2 : decide (8 ≤ c) = true := decide_eq_true c2
      have HZ : Sh (sizeRow c = (0, 0, 0, 0)) := ⟨by unfold sizeRow; repeat (rw [if_neg (by omega)])⟩
      have HB := Sh.mk hB0
      clear c1 c2 hB0
      go_enter Try.func42, Try.ntmps42
      go_wp2
      exact bodyPost_ret (v := .agg #[.int .i64 0, .int .i64 0, .int .i64 0, .int .i64 0]) (by simp [results, Try.results42, go_sem]) rfl ⟨by rw [HZ.out], HB.out⟩
    · clear hB0
      rcases (show c = 0 ∨ c = 1 ∨ c = 2 ∨ c = 3 ∨ c = 4 ∨ c = 5 ∨ c = 6 ∨ c = 7 by omega) with rfl | rfl | rfl | rfl | rfl | rfl | rfl | rfl
      · clear c1 c2 b1
        go_enter Try.func42, Try.ntmps42
        go_wp2
        exact bodyPost_ret (v := .agg #[.int .i64 32, .int .i64 8, .int .i64 16, .int .i64 4]) (by simp [results, Try.results42, go_sem]) rfl ⟨rfl, below_alloc (Below.refl w.heap.size w) _⟩
      · clear c1 c2 b1
        go_enter Try.func42, Try.ntmps42
        go_wp2
        exact bodyPost_ret (v := .agg #[.int .i64 64, .int .i64 8, .int .i64 8, .int .i64 3]) (by simp [results, Try.results42, go_sem]) rfl ⟨rfl, below_alloc (Below.refl w.heap.size w) _⟩
      · clear c1 c2 b1
        go_enter Try.func42, Try.ntmps42
        go_wp2
        exact bodyPost_ret (v := .agg #[.int .i64 128, .int .i64 8, .int .i64 4, .int .i64 2]) (by simp [results, Try.results42, go_sem]) rfl ⟨rfl, below_alloc (Below.refl w.heap.size w) _⟩
      · clear c1 c2 b1
        go_enter Try.func42, Try.ntmps42
        go_wp2
        exact bodyPost_ret (v := .agg #[.int .i64 256, .int .i64 8, .int .i64 2, .int .i64 1]) (by simp [results, Try.results42, go_sem]) rfl ⟨rfl, below_alloc (Below.refl w.heap.size w) _⟩
      · clear c1 c2 b1
        go_enter Try.func42, Try.ntmps42
        go_wp2
        exact bodyPost_ret (v := .agg #[.int .i64 512, .int .i64 8, .int .i64 1, .int .i64 0]) (by simp [results, Try.results42, go_sem]) rfl ⟨rfl, below_alloc (Below.refl w.heap.size w) _⟩
      · clear c1 c2 b1
        go_enter Try.func42, Try.ntmps42
        go_wp2
        exact bodyPost_ret (v := .agg #[.int .i64 1024, .int .i64 16, .int .i64 1, .int .i64 0]) (by simp [results, Try.results42, go_sem]) rfl ⟨rfl, below_alloc (Below.refl w.heap.size w) _⟩
      · clear c1 c2 b1
        go_enter Try.func42, Try.ntmps42
        go_wp2
        exact bodyPost_ret (v := .agg #[.int .i64 2048, .int .i64 32, .int .i64 1, .int .i64 0]) (by simp [results, Try.results42, go_sem]) rfl ⟨rfl, below_alloc (Below.refl w.heap.size w) _⟩
      · clear c1 c2 b1
        go_enter Try.func42, Try.ntmps42
        go_wp2
        exact bodyPost_ret (v := .agg #[.int .i64 4096, .int .i64 64, .int .i64 1, .int .i64 0]) (by simp [results, Try.results42, go_sem]) rfl ⟨rfl, below_alloc (Below.refl w.heap.size w) _⟩
end Go.Proofs.Ytmmpdpnonnjadaa
