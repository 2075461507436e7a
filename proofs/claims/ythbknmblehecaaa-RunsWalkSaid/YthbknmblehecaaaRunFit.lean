/- runs.Fit: contract. No statement is proved here. -/
import Derived.Test.YthbknmblehecaaaRunFunc
namespace Go.Proofs.Ythbknmblehecaaa
set_option linter.unusedVariables false
set_option linter.unusedSimpArgs false
open Go.RowKit Go.Proofs.YthbknmblehecaaaW.PrintWords Go.Proofs.YthbknmblehecaaaW.PrintLast Go.Proofs.YthbknmblehecaaaW.PrintMore Pr

theorem fit_closure (a b : Int) (bn : Nat) (n : Int) (w : World) (hb : w.cell? ⟨bn, 0, none⟩ = some (.int .i64 n)) :
    Calls Try.prog 41 #[.agg #[.int .i64 a, .int .i64 b], .pointer (some ⟨bn, 0, none⟩)] w fun e w' => e = .returned (.bool (decide (n ≤ b))) ∧ Below w.heap.size w w' := by
  have hbl : bn < w.heap.size := World.block_lt_of_cell? _ _ hb
  have hc : (w.alloc (.cells #[.int .i64 a, .int .i64 b] 32)).cell? ⟨bn, 0, none⟩ = some (.int .i64 n) := ((below_alloc (Below.refl w.heap.size w) _).cell hbl).trans hb
  have HB : Sh (Below w.heap.size w (w.alloc (.cells #[.int .i64 a, .int .i64 b] 32))) := ⟨below_alloc (Below.refl w.heap.size w) _⟩
  go_enter Try.func41, Try.ntmps41
  go_wp2
  go_ret
  exact ⟨rfl, HB.out⟩

theorem index_fit (A0 : Option Addr) (c0 : Nat) (l0 : List S32) (bn : Nat) (n : Int) (w : World) (hr0 : Kd.C k32 w A0 l0.length l0) (hl : l0.length ≤ 17592186044416) (hb : w.cell? ⟨bn, 0, none⟩ = some (.int .i64 n)) :
    Calls Try.prog 40 #[.slice A0 l0.length c0, .func (.func 41) #[] #[.pointer (some ⟨bn, 0, none⟩)]] w fun e w' => e = .returned (.int .i64 (idxB (fun x : S32 => decide (n ≤ x.f1)) l0 0)) ∧ Below w.heap.size w w' :=
  index_run (fun x => decide (n ≤ x.f1)) 41 _ A0 c0 l0 w (enters_of Try.func41 (by kernel_rfl) rfl) hr0 hl (fun W hW x => fit_closure x.f0 x.f1 bn n W ((hW.cell (World.block_lt_of_cell? _ _ hb)).trans hb))

/-- What Fit answers. -/
def fitS (l : List S32) (n : Int) : Int × Bool := if n < 1 then (0, false) else if idxB (fun x : S32 => decide (n ≤ x.f1)) l 0 < 0 then (0, false) else (idxB (fun x : S32 => decide (n ≤ x.f1)) l 0, true)
set_option maxHeartbeats 2000000 in
theorem fit_any (A0 : Option Addr) (c0 : Nat) (l0 : List S32) (n : Int) (w : World) (hr0 : Kd.C k32 w A0 l0.length l0) (hl : l0.length ≤ 17592186044416) :
    Calls Try.prog 14 #[.slice A0 l0.length c0, .int .i64 n] w fun e w' => e = .returned (.tuple #[.int .i64 (fitS l0 n).1, .bool (fitS l0 n).2]) ∧ Below w.heap.size w w' := by
  have HB0 : Sh (Below w.heap.size w (w.alloc (.cells #[.int .i64 n] 3))) := ⟨below_alloc (Below.refl _ _) _⟩
  have HC : Sh (Kd.C k32 (w.alloc (.cells #[.int .i64 n] 3)) A0 l0.length l0) := ⟨Kd.C_below hr0 HB0.out⟩
  have HN : Sh ((w.alloc (.cells #[.int .i64 n] 3)).cell? ⟨w.heap.size, 0, none⟩ = some (.int .i64 n)) := ⟨by rw [(Blk.new w 3 #[.int .i64 n]).cell 0]; rfl⟩
  obtain ⟨x, hx⟩ : ∃ x, x = idxB (fun x : S32 => decide (n ≤ x.f1)) l0 0 := ⟨_, rfl⟩
  have HX := Sh.mk hx
  clear hr0
  by_cases c1 : n < 1
  · have e1 : fitS l0 n = (0, false) := by unfold fitS; rw [if_pos c1]
    rw [e1]
    clear e1 hx
    go_enter Try.func14, Try.ntmps14
    go_wp2_with fail
    (with_reducible refine (index_fit A0 c0 l0 w.heap.size n _ HC.out hl HN.out).mono ?_); rintro e w2 ⟨rfl, h2⟩
    have hcn : w2.cell? ⟨w.heap.size, 0, none⟩ = some (.int .i64 n) := (h2.cell (World.block_lt_of_cell? _ _ HN.out)).trans HN.out
    have H2 := Sh.mk h2
    clear h2
    rw [← HX.out]
    go_wp2
    go_ret2
    exact ⟨rfl, below_then HB0.out HB0.out.size H2.out⟩
  · have c1' : 1 ≤ n := by omega
    by_cases c2 : x < 0
    · have e1 : fitS l0 n = (0, false) := by unfold fitS; rw [if_neg c1, ← hx, if_pos c2]
      rw [e1]
      clear e1 hx
      go_enter Try.func14, Try.ntmps14
      go_wp2_with fail
      (with_reducible refine (index_fit A0 c0 l0 w.heap.size n _ HC.out hl HN.out).mono ?_); rintro e w2 ⟨rfl, h2⟩
      have hcn : w2.cell? ⟨w.heap.size, 0, none⟩ = some (.int .i64 n) := (h2.cell (World.block_lt_of_cell? _ _ HN.out)).trans HN.out
      have H2 := Sh.mk h2
      clear h2
      rw [← HX.out]
      go_wp2
      go_ret2
      exact ⟨rfl, below_then HB0.out HB0.out.size H2.out⟩
    · have e1 : fitS l0 n = (x, true) := by unfold fitS; rw [if_neg c1, ← hx, if_neg c2]
      have c2' : 0 ≤ x := by omega
      rw [e1]
      clear e1 hx
      go_enter Try.func14, Try.ntmps14
      go_wp2_with fail
      (with_reducible refine (index_fit A0 c0 l0 w.heap.size n _ HC.out hl HN.out).mono ?_); rintro e w2 ⟨rfl, h2⟩
      have hcn : w2.cell? ⟨w.heap.size, 0, none⟩ = some (.int .i64 n) := (h2.cell (World.block_lt_of_cell? _ _ HN.out)).trans HN.out
      have H2 := Sh.mk h2
      clear h2
      rw [← HX.out]
      go_wp2
      go_ret2
      exact ⟨rfl, below_then HB0.out HB0.out.size H2.out⟩
end Go.Proofs.Ythbknmblehecaaa
