/- runs.Has: contract. No statement is proved here. -/
import Derived.Test.YthbknmblehecaaaRunFunc
import Derived.StillTailTactics
import Derived.Deep.RegionHeld3
namespace Go.Proofs.Ythbknmblehecaaa
set_option linter.unusedVariables false
set_option linter.unusedSimpArgs false
open Go.RowKit Go.Proofs.YthbknmblehecaaaW.PrintWords Go.Proofs.YthbknmblehecaaaW.PrintLast Go.Proofs.YthbknmblehecaaaW.PrintMore Pr

theorem end_any (a b : Int) (w : World) :
    Calls Try.prog 45 #[.agg #[.int .i64 a, .int .i64 b]] w fun e w' => e = .returned (.int .i64 (wrap64 (a + b))) ∧ Below w.heap.size w w' := by
  have HB : Sh (Below w.heap.size w (w.alloc (.cells #[.int .i64 a, .int .i64 b] 32))) := ⟨below_alloc (Below.refl w.heap.size w) _⟩
  go_enter Try.func45, Try.ntmps45
  go_wp2
  go_ret
  exact ⟨rfl, HB.out⟩

set_option maxHeartbeats 2000000 in
theorem has_closure (a b : Int) (bn : Nat) (n : Int) (w : World) (hb : w.cell? ⟨bn, 0, none⟩ = some (.int .i64 n)) :
    Calls Try.prog 48 #[.agg #[.int .i64 a, .int .i64 b], .pointer (some ⟨bn, 0, none⟩)] w fun e w' => e = .returned (.bool (decide (a ≤ n ∧ n < wrap64 (a + b)))) ∧ Below w.heap.size w w' := by
  have hbl : bn < w.heap.size := World.block_lt_of_cell? _ _ hb
  have hu := Try.underlying32
  obtain ⟨w1, hw1⟩ : ∃ w1, w1 = w.alloc (.cells #[.int .i64 a, .int .i64 b] 32) := ⟨_, rfl⟩
  have hB1 : Below w.heap.size w w1 := by rw [hw1]; exact below_alloc (Below.refl w.heap.size w) _
  have hk : Blk w1 w.heap.size 32 #[.int .i64 a, .int .i64 b] := by rw [hw1]; exact Blk.new _ _ _
  have hc : w1.drew.cell? ⟨bn, 0, none⟩ = some (.int .i64 n) := (hB1.cell hbl).trans hb
  have hc0 : w1.drew.cell? ⟨w.heap.size, 0, none⟩ = some (.int .i64 a) := (hk.cell 0).trans rfl
  have hc1 : w1.drew.cell? ⟨w.heap.size, 1, none⟩ = some (.int .i64 b) := (hk.cell 1).trans rfl
  have HB := Sh.mk hB1
  have HB2 : Sh (Below w.heap.size w w1.drew) := ⟨hB1.drew⟩
  have HC := Sh.mk (And.intro hc (And.intro hc0 hc1))
  clear hB1 hk hb
  obtain ⟨g, hg⟩ : ∃ g, g = w.heap.size := ⟨_, rfl⟩
  subst hw1
  by_cases c : a ≤ n
  · have e1 : decide (a ≤ n ∧ n < wrap64 (a + b)) = decide (n < wrap64 (a + b)) := by simp [c]
    rw [e1]
    clear e1
    go_enter Try.func48, Try.ntmps48
    go_wp2
    go_region_held3 (fun w' => w'.cell? ⟨bn, 0, none⟩ = some (.int .i64 n) ∧ w'.cell? ⟨w.heap.size, 0, none⟩ = some (.int .i64 a) ∧ w'.cell? ⟨w.heap.size, 1, none⟩ = some (.int .i64 b)) (first | exact ⟨(H2.out.cell (World.block_lt_of_cell? _ _ HC.out.1)).trans HC.out.1, (H2.out.cell (World.block_lt_of_cell? _ _ HC.out.2.1)).trans HC.out.2.1, (H2.out.cell (World.block_lt_of_cell? _ _ HC.out.2.2)).trans HC.out.2.2⟩ | exact ⟨HC.out.1, HC.out.2.1, HC.out.2.2⟩) (first | (go_at_call 45; (with_reducible refine (end_any a b _).mono ?_); rintro e w2 ⟨rfl, h2⟩; have H2 := Sh.mk h2; clear h2))
    all_goals go_wp2
    all_goals go_ret
    all_goals exact ⟨rfl, below_then HB2.out HB2.out.size H2.out⟩
  · have e1 : decide (a ≤ n ∧ n < wrap64 (a + b)) = false := by simp [c]
    rw [e1]
    have cb : decide (a ≤ n) = false := decide_eq_false c
    have hd : (w.alloc (.cells #[.int .i64 a, .int .i64 b] 32)).cell? ⟨bn, 0, none⟩ = some (.int .i64 n) := hc
    have hd0 : (w.alloc (.cells #[.int .i64 a, .int .i64 b] 32)).cell? ⟨w.heap.size, 0, none⟩ = some (.int .i64 a) := hc0
    have hd1 : (w.alloc (.cells #[.int .i64 a, .int .i64 b] 32)).cell? ⟨w.heap.size, 1, none⟩ = some (.int .i64 b) := hc1
    clear e1 c hc hc0 hc1
    go_enter Try.func48, Try.ntmps48
    go_wp2
    go_quiet (fail)
    go_wp2
    go_ret
    exact ⟨rfl, below_then HB.out HB.out.size ((Kp.refl [] _).drewN _).below⟩

/-- Whether a page is in a run. -/
def inRun (n : Int) (x : S32) : Bool := decide (x.f0 ≤ n ∧ n < wrap64 (x.f0 + x.f1))
theorem contains_has (A0 : Option Addr) (c0 : Nat) (l0 : List S32) (bn : Nat) (n : Int) (w : World) (hr0 : Kd.C k32 w A0 l0.length l0) (hl : l0.length ≤ 17592186044416) (hb : w.cell? ⟨bn, 0, none⟩ = some (.int .i64 n)) :
    Calls Try.prog 47 #[.slice A0 l0.length c0, .func (.func 48) #[] #[.pointer (some ⟨bn, 0, none⟩)]] w fun e w' => e = .returned (.bool (l0.any (inRun n))) ∧ Below w.heap.size w w' :=
  contains_run (inRun n) 48 _ A0 c0 l0 w (enters_of Try.func48 (by kernel_rfl) rfl) hr0 hl (fun W hW x => has_closure x.f0 x.f1 bn n W ((hW.cell (World.block_lt_of_cell? _ _ hb)).trans hb))
set_option maxHeartbeats 1000000 in
theorem has_any (A0 : Option Addr) (c0 : Nat) (l0 : List S32) (n : Int) (w : World) (hr0 : Kd.C k32 w A0 l0.length l0) (hl : l0.length ≤ 17592186044416) :
    Calls Try.prog 19 #[.slice A0 l0.length c0, .int .i64 n] w fun e w' => e = .returned (.bool (l0.any (inRun n))) ∧ Below w.heap.size w w' := by
  have HB0 : Sh (Below w.heap.size w (w.alloc (.cells #[.int .i64 n] 3))) := ⟨below_alloc (Below.refl _ _) _⟩
  have HC : Sh (Kd.C k32 (w.alloc (.cells #[.int .i64 n] 3)) A0 l0.length l0) := ⟨Kd.C_below hr0 HB0.out⟩
  have HN : Sh ((w.alloc (.cells #[.int .i64 n] 3)).cell? ⟨w.heap.size, 0, none⟩ = some (.int .i64 n)) := ⟨by rw [(Blk.new w 3 #[.int .i64 n]).cell 0]; rfl⟩
  clear hr0
  go_enter Try.func19, Try.ntmps19
  go_wp2_with fail
  (with_reducible refine (contains_has A0 c0 l0 w.heap.size n _ HC.out hl HN.out).mono ?_); rintro e w2 ⟨rfl, h2⟩
  have H2 := Sh.mk h2
  clear h2
  go_wp2
  go_ret
  exact ⟨rfl, below_then HB0.out HB0.out.size H2.out⟩
end Go.Proofs.Ythbknmblehecaaa
