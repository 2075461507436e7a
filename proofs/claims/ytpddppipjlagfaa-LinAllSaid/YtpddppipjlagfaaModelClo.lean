/- The function values of package model: contracts. No statement is proved here. -/
import Derived.Test.YtpddppipjlagfaaLiveFunc
import Derived.Test.YtpddppipjlagfaaSizeOver
import Derived.Test.YtpddppipjlagfaaOver
import Derived.Deep.RegionHeld3
import Derived.Test.YtpddppipjlagfaaPrx7
namespace Go.Proofs.Ytpddppipjlagfaa
set_option linter.unusedVariables false
set_option linter.unusedSimpArgs false
open Go.RowKit Go.Proofs.YtpddppipjlagfaaW.PrintWords Go.Proofs.YtpddppipjlagfaaW.PrintLast Go.Proofs.YtpddppipjlagfaaW.PrintMore Pr

/-- Whether a stack has a word in common with another. -/
def liveOver (b x : S59) : Bool := overS b.f0 (sizeRow b.f1).1 x.f0 (sizeRow x.f1).1
/-- A stack's address against another one. -/
def liveAt (t : Int) (x : S59) : Int := if x.f0 < t then -1 else if x.f0 > t then 1 else 0
theorem compare_isL (a b : Int) : cmp_Compare_int.f a b = some (if a < b then -1 else if a > b then 1 else 0) := by
  simp only [cmp_Compare_int.f, cmp_isNaN_int.f, Option.bind_some]
  simp
  split
  · rfl
  · split <;> rfl
set_option maxHeartbeats 2000000 in
theorem clo_livePlace (x : S59) (t : Int) (w : World) :
    Calls Try.prog 62 (#[.agg #[.int .i64 x.f0, .int .i64 x.f1, .int .i64 x.f2], .int .i64 t] ++ #[]) w fun e w' => e = .returned (.int .i64 (liveAt t x)) ∧ Below w.heap.size w w' := by
  obtain ⟨x0, x1, x2⟩ := x
  have hB1 : Below w.heap.size w (w.alloc (.cells #[.int .i64 x0, .int .i64 x1, .int .i64 x2] 59)) := below_alloc (Below.refl w.heap.size w) _
  have hk : Blk (w.alloc (.cells #[.int .i64 x0, .int .i64 x1, .int .i64 x2] 59)) w.heap.size 59 #[.int .i64 x0, .int .i64 x1, .int .i64 x2] := Blk.new _ _ _
  have d0 : (w.alloc (.cells #[.int .i64 x0, .int .i64 x1, .int .i64 x2] 59)).cell? ⟨w.heap.size, 0, none⟩ = some (.int .i64 x0) := (hk.cell 0).trans rfl
  have HB := Sh.mk hB1
  have HO : Sh (cmp_Compare_int.f x0 t = some (liveAt t ⟨x0, x1, x2⟩)) := ⟨compare_isL x0 t⟩
  clear hB1 hk
  go_enter Try.func62, Try.ntmps62
  go_wp2_with (first | (go_at_call 63; (with_reducible refine (cmp_Compare_int.calls _ _ _ _ HO.out).mono ?_); rintro e w2 ⟨rfl, ⟨nd, rfl⟩⟩))
  go_ret
  exact ⟨rfl, below_step HB.out ((Kp.refl [] _).drewN _).below⟩
theorem search_livePlace (A0 : Option Addr) (c0 : Nat) (l0 : List S59) (t : Int) (w : World) (hr0 : Kd.C k59 w A0 l0.length l0) (hl : l0.length ≤ 17592186044416) :
    Calls Try.prog 61 #[.slice A0 l0.length c0, .int .i64 t, .func (.func 62) #[] #[]] w fun e w' => e = .returned (.tuple #[.int .i64 (bsI (liveAt t) l0 0 l0.length : Nat), .bool (bsB (liveAt t) l0)]) ∧ Below w.heap.size w w' :=
  search_live (liveAt t) 62 #[] A0 c0 l0 t w (enters_of Try.func62 (by kernel_rfl) rfl) hr0 hl (fun W hW x => clo_livePlace x t W)
set_option maxHeartbeats 2000000 in
theorem clo_liveAlloc (x : S59) (b0 b1 b2 : Int) (bn : Nat) (w : World) (h0 : w.cell? ⟨bn, 0, none⟩ = some (.int .i64 b0)) (h1 : w.cell? ⟨bn, 1, none⟩ = some (.int .i64 b1)) (h2 : w.cell? ⟨bn, 2, none⟩ = some (.int .i64 b2)) :
    Calls Try.prog 57 (#[.agg #[.int .i64 x.f0, .int .i64 x.f1, .int .i64 x.f2]] ++ #[.pointer (some ⟨bn, 0, none⟩)]) w fun e w' => e = .returned (.bool (liveOver ⟨b0, b1, b2⟩ x)) ∧ Below w.heap.size w w' := by
  obtain ⟨x0, x1, x2⟩ := x
  have hbl : bn < w.heap.size := World.block_lt_of_cell? _ _ h0
  have hB1 : Below w.heap.size w (w.alloc (.cells #[.int .i64 x0, .int .i64 x1, .int .i64 x2] 59)) := below_alloc (Below.refl w.heap.size w) _
  have hk : Blk (w.alloc (.cells #[.int .i64 x0, .int .i64 x1, .int .i64 x2] 59)) w.heap.size 59 #[.int .i64 x0, .int .i64 x1, .int .i64 x2] := Blk.new _ _ _
  have c0 : (w.alloc (.cells #[.int .i64 x0, .int .i64 x1, .int .i64 x2] 59)).cell? ⟨bn, 0, none⟩ = some (.int .i64 b0) := (hB1.cell hbl).trans h0
  have d0 : (w.alloc (.cells #[.int .i64 x0, .int .i64 x1, .int .i64 x2] 59)).cell? ⟨w.heap.size, 0, none⟩ = some (.int .i64 x0) := (hk.cell 0).trans rfl
  have c1 : (w.alloc (.cells #[.int .i64 x0, .int .i64 x1, .int .i64 x2] 59)).cell? ⟨bn, 1, none⟩ = some (.int .i64 b1) := (hB1.cell hbl).trans h1
  have d1 : (w.alloc (.cells #[.int .i64 x0, .int .i64 x1, .int .i64 x2] 59)).cell? ⟨w.heap.size, 1, none⟩ = some (.int .i64 x1) := (hk.cell 1).trans rfl
  have c2 : (w.alloc (.cells #[.int .i64 x0, .int .i64 x1, .int .i64 x2] 59)).cell? ⟨bn, 2, none⟩ = some (.int .i64 b2) := (hB1.cell hbl).trans h2
  have d2 : (w.alloc (.cells #[.int .i64 x0, .int .i64 x1, .int .i64 x2] 59)).cell? ⟨w.heap.size, 2, none⟩ = some (.int .i64 x2) := (hk.cell 2).trans rfl
  have HB := Sh.mk hB1
  have HO : Sh (model_over.f b0 b1 b2 x0 x1 x2 = some (liveOver ⟨b0, b1, b2⟩ ⟨x0, x1, x2⟩)) := ⟨rfl⟩
  clear hB1 hk h0 h1 h2
  go_enter Try.func57, Try.ntmps57
  go_wp2_with (first | (go_at_call 58; (with_reducible refine (model_over.calls _ _ _ _ _ _ _ _ HO.out).mono ?_); rintro e w2 ⟨rfl, h2⟩; have H2 := Sh.mk h2; clear h2))
  go_ret
  exact ⟨rfl, below_step HB.out H2.out⟩
theorem contains_liveAlloc (A0 : Option Addr) (c0 : Nat) (l0 : List S59) (g : Nat) (b0 b1 b2 : Int) (w : World) (hr0 : Kd.C k59 w A0 l0.length l0) (hl : l0.length ≤ 17592186044416) (hk : w.heap[g]? = some (.cells #[.int .i64 b0, .int .i64 b1, .int .i64 b2] 59 (0, 0))) :
    Calls Try.prog 56 #[.slice A0 l0.length c0, .func (.func 57) #[] #[.pointer (some ⟨g, 0, none⟩)]] w fun e w' => e = .returned (.bool (l0.any (liveOver ⟨b0, b1, b2⟩))) ∧ Below w.heap.size w w' :=
  contains_live (liveOver ⟨b0, b1, b2⟩) 57 _ A0 c0 l0 w (enters_of Try.func57 (by kernel_rfl) rfl) hr0 hl (fun W hW x => by
    have hk' : W.heap[g]? = some (.cells #[.int .i64 b0, .int .i64 b1, .int .i64 b2] 59 (0, 0)) := blk_below hk hW
    exact clo_liveAlloc x b0 b1 b2 g W ((blk_cell hk' 0).trans rfl) ((blk_cell hk' 1).trans rfl) ((blk_cell hk' 2).trans rfl))
set_option maxHeartbeats 1000000 in
theorem place_any (A0 : Option Addr) (c0 : Nat) (l0 : List S59) (t : Int) (w : World) (hr0 : Kd.C k59 w A0 l0.length l0) (hl : l0.length ≤ 17592186044416) :
    Calls Try.prog 54 #[.slice A0 l0.length c0, .int .i64 t] w fun e w' => e = .returned (.tuple #[.int .i64 (bsI (liveAt t) l0 0 l0.length : Nat), .bool (bsB (liveAt t) l0)]) ∧ Below w.heap.size w w' := by
  have HS := Sh.mk (search_livePlace A0 c0 l0 t w hr0 hl)
  clear hr0
  obtain ⟨r1, hr1⟩ : ∃ r, r = bsI (liveAt t) l0 0 l0.length := ⟨_, rfl⟩
  obtain ⟨r2, hr2⟩ : ∃ r, r = bsB (liveAt t) l0 := ⟨_, rfl⟩
  rw [← hr1, ← hr2] at HS ⊢
  clear hr1 hr2
  go_enter Try.func54, Try.ntmps54
  go_wp2_with fail
  (with_reducible refine HS.out.mono ?_); rintro e w2 ⟨rfl, h2⟩
  have H2 := Sh.mk h2
  clear h2
  go_wp2
  go_ret2
  exact ⟨rfl, H2.out⟩
end Go.Proofs.Ytpddppipjlagfaa
