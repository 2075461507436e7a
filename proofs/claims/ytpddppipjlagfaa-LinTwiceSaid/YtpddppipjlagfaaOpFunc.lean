/- Several texts in one: ModelClo, Prx6, Prx8, OpFunc. -/
import Derived.Test.YtpddppipjlagfaaInsLive
import Derived.Test.YtpddppipjlagfaaPure
import Derived.Test.YtpddppipjlagfaaSizeOver
import Derived.Test.YtpddppipjlagfaaOver
import Derived.Deep.RegionHeld3
import Derived.Test.YtpddppipjlagfaaPrx5
import Derived.Test.YtpddppipjlagfaaPrx0
import Derived.Test.YtpddppipjlagfaaDelLive
import Derived.Test.YtpddppipjlagfaaBase
import Derived.Test.YtpddppipjlagfaaWArr
import Derived.Shelf.Abstract
/- The function values of package model: contracts. No statement is proved here. -/
namespace Go.Proofs.Ytpddppipjlagfaa
set_option linter.unusedVariables false
set_option linter.unusedSimpArgs false
open Go.RowKit Go.Proofs.YtpddppipjlagfaaW.PrintWords Go.Proofs.YtpddppipjlagfaaW.PrintLast Go.Proofs.YtpddppipjlagfaaW.PrintMore Pr

/-- Whether a stack has a word in common with another. -/
def liveOver (b x : S59) : Bool := overS b.f0 (sizeRow b.f1).1 x.f0 (sizeRow x.f1).1
/-- A stack's address against another one. -/
def liveAt (t : Int) (x : S59) : Int := if x.f0 < t then -1 else if x.f0 > t then 1 else 0
theorem compare_isL (a b : Int) : cmp_Compare_int.f a b = some (if a < b then -1 else if a > b then 1 else 0) := by
  simp only [cmp_Compare_int.f, cmp_isNaN_int.f, Option.bind_some]
  simp
  split
  · rfl
  · split <;> rfl
set_option maxHeartbeats 2000000 in
theorem clo_livePlace (x : S59) (t : Int) (w : World) :
    Calls Try.prog 62 (#[.agg #[.int .i64 x.f0, .int .i64 x.f1, .int .i64 x.f2], .int .i64 t] ++ #[]) w fun e w' => e = .returned (.int .i64 (liveAt t x)) ∧ Below w.heap.size w w' := by
  obtain ⟨x0, x1, x2⟩ := x
  have hB1 : Below w.heap.size w (w.alloc (.cells #[.int .i64 x0, .int .i64 x1, .int .i64 x2] 59)) := below_alloc (Below.refl w.heap.size w) _
  have hk : Blk (w.alloc (.cells #[.int .i64 x0, .int .i64 x1, .int .i64 x2] 59)) w.heap.size 59 #[.int .i64 x0, .int .i64 x1, .int .i64 x2] := Blk.new _ _ _
  have d0 : (w.alloc (.cells #[.int .i64 x0, .int .i64 x1, .int .i64 x2] 59)).cell? ⟨w.heap.size, 0, none⟩ = some (.int .i64 x0) := (hk.cell 0).trans rfl
  have HB := Sh.mk hB1
  have HO : Sh (cmp_Compare_int.f x0 t = some (liveAt t ⟨x0, x1, x2⟩)) := ⟨compare_isL x0 t⟩
  clear hB1 hk
  go_enter Try.func62, Try.ntmps62
  go_wp2_with (first | (go_at_call 63; (with_reducible refine (cmp_Compare_int.calls _ _ _ _ HO.out).mono ?_); rintro e w2 ⟨rfl, ⟨nd, rfl⟩⟩))
  go_ret
  exact ⟨rfl, below_step HB.out ((Kp.refl [] _).drewN _).below⟩
theorem search_livePlace (A0 : Option Addr) (c0 : Nat) (l0 : List S59) (t : Int) (w : World) (hr0 : Kd.C k59 w A0 l0.length l0) (hl : l0.length ≤ 17592186044416) :
    Calls Try.prog 61 #[.slice A0 l0.length c0, .int .i64 t, .func (.func 62) #[] #[]] w fun e w' => e = .returned (.tuple #[.int .i64 (bsI (liveAt t) l0 0 l0.length : Nat), .bool (bsB (liveAt t) l0)]) ∧ Below w.heap.size w w' :=
  search_live (liveAt t) 62 #[] A0 c0 l0 t w (enters_of Try.func62 (by kernel_rfl) rfl) hr0 hl (fun W hW x => clo_livePlace x t W)
set_option maxHeartbeats 2000000 in
theorem clo_liveAlloc (x : S59) (b0 b1 b2 : Int) (bn : Nat) (w : World) (h0 : w.cell? ⟨bn, 0, none⟩ = some (.int .i64 b0)) (h1 : w.cell? ⟨bn, 1, none⟩ = some (.int .i64 b1)) (h2 : w.cell? ⟨bn, 2, none⟩ = some (.int .i64 b2)) :
    Calls Try.prog 57 (#[.agg #[.int .i64 x.f0, .int .i64 x.f1, .int .i64 x.f2]] ++ #[.pointer (some ⟨bn, 0, none⟩)]) w fun e w' => e = .returned (.bool (liveOver ⟨b0, b1, b2⟩ x)) ∧ Below w.heap.size w w' := by
  obtain ⟨x0, x1, x2⟩ := x
  have hbl : bn < w.heap.size := World.block_lt_of_cell? _ _ h0
  have hB1 : Below w.heap.size w (w.alloc (.cells #[.int .i64 x0, .int .i64 x1, .int .i64 x2] 59)) := below_alloc (Below.refl w.heap.size w) _
  have hk : Blk (w.alloc (.cells #[.int .i64 x0, .int .i64 x1, .int .i64 x2] 59)) w.heap.size 59 #[.int .i64 x0, .int .i64 x1, .int .i64 x2] := Blk.new _ _ _
  have c0 : (w.alloc (.cells #[.int .i64 x0, .int .i64 x1, .int .i64 x2] 59)).cell? ⟨bn, 0, none⟩ = some (.int .i64 b0) := (hB1.cell hbl).trans h0
  have d0 : (w.alloc (.cells #[.int .i64 x0, .int .i64 x1, .int .i64 x2] 59)).cell? ⟨w.heap.size, 0, none⟩ = some (.int .i64 x0) := (hk.cell 0).trans rfl
  have c1 : (w.alloc (.cells #[.int .i64 x0, .int .i64 x1, .int .i64 x2] 59)).cell? ⟨bn, 1, none⟩ = some (.int .i64 b1) := (hB1.cell hbl).trans h1
  have d1 : (w.alloc (.cells #[.int .i64 x0, .int .i64 x1, .int .i64 x2] 59)).cell? ⟨w.heap.size, 1, none⟩ = some (.int .i64 x1) := (hk.cell 1).trans rfl
  have c2 : (w.alloc (.cells #[.int .i64 x0, .int .i64 x1, .int .i64 x2] 59)).cell? ⟨bn, 2, none⟩ = some (.int .i64 b2) := (hB1.cell hbl).trans h2
  have d2 : (w.alloc (.cells #[.int .i64 x0, .int .i64 x1, .int .i64 x2] 59)).cell? ⟨w.heap.size, 2, none⟩ = some (.int .i64 x2) := (hk.cell 2).trans rfl
  have HB := Sh.mk hB1
  have HO : Sh (model_over.f b0 b1 b2 x0 x1 x2 = some (liveOver ⟨b0, b1, b2⟩ ⟨x0, x1, x2⟩)) := ⟨rfl⟩
  clear hB1 hk h0 h1 h2
  go_enter Try.func57, Try.ntmps57
  go_wp2_with (first | (go_at_call 58; (with_reducible refine (model_over.calls _ _ _ _ _ _ _ _ HO.out).mono ?_); rintro e w2 ⟨rfl, h2⟩; have H2 := Sh.mk h2; clear h2))
  go_ret
  exact ⟨rfl, below_step HB.out H2.out⟩
theorem contains_liveAlloc (A0 : Option Addr) (c0 : Nat) (l0 : List S59) (g : Nat) (b0 b1 b2 : Int) (w : World) (hr0 : Kd.C k59 w A0 l0.length l0) (hl : l0.length ≤ 17592186044416) (hk : w.heap[g]? = some (.cells #[.int .i64 b0, .int .i64 b1, .int .i64 b2] 59 (0, 0))) :
    Calls Try.prog 56 #[.slice A0 l0.length c0, .func (.func 57) #[] #[.pointer (some ⟨g, 0, none⟩)]] w fun e w' => e = .returned (.bool (l0.any (liveOver ⟨b0, b1, b2⟩))) ∧ Below w.heap.size w w' :=
  contains_live (liveOver ⟨b0, b1, b2⟩) 57 _ A0 c0 l0 w (enters_of Try.func57 (by kernel_rfl) rfl) hr0 hl (fun W hW x => by
    have hk' : W.heap[g]? = some (.cells #[.int .i64 b0, .int .i64 b1, .int .i64 b2] 59 (0, 0)) := blk_below hk hW
    exact clo_liveAlloc x b0 b1 b2 g W ((blk_cell hk' 0).trans rfl) ((blk_cell hk' 1).trans rfl) ((blk_cell hk' 2).trans rfl))
set_option maxHeartbeats 1000000 in
theorem place_any (A0 : Option Addr) (c0 : Nat) (l0 : List S59) (t : Int) (w : World) (hr0 : Kd.C k59 w A0 l0.length l0) (hl : l0.length ≤ 17592186044416) :
    Calls Try.prog 54 #[.slice A0 l0.length c0, .int .i64 t] w fun e w' => e = .returned (.tuple #[.int .i64 (bsI (liveAt t) l0 0 l0.length : Nat), .bool (bsB (liveAt t) l0)]) ∧ Below w.heap.size w w' := by
  have HS := Sh.mk (search_livePlace A0 c0 l0 t w hr0 hl)
  clear hr0
  obtain ⟨r1, hr1⟩ : ∃ r, r = bsI (liveAt t) l0 0 l0.length := ⟨_, rfl⟩
  obtain ⟨r2, hr2⟩ : ∃ r, r = bsB (liveAt t) l0 := ⟨_, rfl⟩
  rw [← hr1, ← hr2] at HS ⊢
  clear hr1 hr2
  go_enter Try.func54, Try.ntmps54
  go_wp2_with fail
  (with_reducible refine HS.out.mono ?_); rintro e w2 ⟨rfl, h2⟩
  have H2 := Sh.mk h2
  clear h2
  go_wp2
  go_ret2
  exact ⟨rfl, H2.out⟩
end Go.Proofs.Ytpddppipjlagfaa

-- Printed by a program of this session (wip/tools/myprint.py) that runs the kit's print with contracts of this session's own.
namespace Go.Proofs.Ytpddppipjlagfaa.Pr
open Go.RowKit Go.Proofs.YtpddppipjlagfaaW.PrintWords Go.Proofs.YtpddppipjlagfaaW.PrintLast Go.Proofs.YtpddppipjlagfaaW.PrintMore
attribute [local go_sem] max2_int min2_int max_two min_two max_three min_three max_four min_four   -- for this text's walks alone
set_option linter.unusedVariables false
set_option linter.unusedSimpArgs false

/-! ### model_place: function 54 (a contract of this session's own) -/
def model_place.f (l0 : List (S59)) (a1 : Int) : Option (Int × Bool) := if l0.length ≤ 17592186044416 then some ((bsI (liveAt a1) l0 0 l0.length : Nat), bsB (liveAt a1) l0) else none
theorem model_place.calls (A0 : Option Addr) (c0 : Nat) (l0 : List (S59)) (a1 : Int) (r1 : Int) (r2 : Bool) (w : World) (hr0 : Kd.C k59 w A0 l0.length l0) (hc0 : l0.length ≤ c0) (h : model_place.f l0 a1 = some (r1, r2)) :
  Calls Try.prog 54 #[.slice A0 l0.length c0, .int .i64 a1] w fun e w' => e = .returned (.tuple #[.int .i64 r1, .bool r2]) ∧ Below w.heap.size w w' := by
 unfold model_place.f at h
 split at h
 next hl =>
  have h2 := place_any A0 c0 l0 a1 w hr0 hl
  cases h
  exact h2
 next => cases h

end Go.Proofs.Ytpddppipjlagfaa.Pr

-- Printed by a program of this session (wip/tools/myprint.py) that runs the kit's print with contracts of this session's own.
namespace Go.Proofs.Ytpddppipjlagfaa.Pr
open Go.RowKit Go.Proofs.YtpddppipjlagfaaW.PrintWords Go.Proofs.YtpddppipjlagfaaW.PrintLast Go.Proofs.YtpddppipjlagfaaW.PrintMore
attribute [local go_sem] max2_int min2_int max_two min_two max_three min_three max_four min_four   -- for this text's walks alone
set_option linter.unusedVariables false
set_option linter.unusedSimpArgs false

/-! ### api_Live_59: function 59 (a contract of this session's own) -/
def api_Live_59.f (l0 : List (S59)) (a1 : Int) (l2 : List (S59)) : Option (List (S59)) := ins_live l0 a1 l2
theorem api_Live_59.calls (P0_ : Nat → Prop) (u0_ : Value) (l0 : List (S59)) (a1 : Int) (P2_ : Nat → Prop) (u2_ : Value) (l2 : List (S59)) (r : List (S59)) (w0 w : World) (hB : Below w0.heap.size w0 w) (ho0 : Kd.R k59 59 w w0.heap.size P0_ u0_ l0) (hp0_2 : ∀ k_, P0_ k_ → ¬ P2_ k_) (ho2 : Kd.R k59 59 w w0.heap.size P2_ u2_ l2) (hp2_0 : ∀ k_, P2_ k_ → ¬ P0_ k_) (h : api_Live_59.f l0 a1 l2 = some r) :
  Calls Try.prog 59 #[u0_, .int .i64 a1, u2_] w fun e w' => ∃ v0_ : Value, e = .returned (v0_) ∧ Kd.R k59 59 w' w0.heap.size (fun k_ => ((P0_ k_ ∨ P2_ k_) ∨ w.heap.size ≤ k_)) v0_ r ∧ Below w0.heap.size w0 w' ∧ Kept w w' (fun k_ => P0_ k_ ∨ P2_ k_) :=
 insertOwn_live P0_ u0_ l0 a1 P2_ u2_ l2 r w0 w hB ho0 hp0_2 ho2 h

end Go.Proofs.Ytpddppipjlagfaa.Pr

/- IndexFunc, ContainsFunc at api.Op, over any closure. No statement is proved here. -/
namespace Go.Proofs.Ytpddppipjlagfaa
set_option linter.unusedVariables false
set_option linter.unusedSimpArgs false
open Go.RowKit Go.Proofs.YtpddppipjlagfaaW.PrintWords Go.Proofs.YtpddppipjlagfaaW.PrintLast Go.Proofs.YtpddppipjlagfaaW.PrintMore Pr

set_option maxHeartbeats 2000000 in
theorem index_op (p : S40 → Bool) (f : Nat) (cs : Array Value) (A0 : Option Addr) (c0 : Nat) (l0 : List S40) (w : World) (eg : ∀ args W, (callFunc f args).run Try.prog W = .ok (.enter f args) W) (hr0 : Kd.C k40 w A0 l0.length l0) (hl : l0.length ≤ 17592186044416)
    (hp : ∀ W, Below w.heap.size w W → ∀ x : S40, Calls Try.prog f (#[.agg #[.int .i64 x.f0.f0, .int .i64 x.f0.f1, .int .i64 x.f0.f2, .int .i64 x.f0.f3, .int .i64 x.f1, .int .i64 x.f2]] ++ cs) W fun e W' => e = .returned (.bool (p x)) ∧ Below W.heap.size W W') :
    Calls Try.prog 46 #[.slice A0 l0.length c0, .func (.func f) #[] cs] w fun e w' => e = .returned (.int .i64 (idxB p l0 0)) ∧ Below w.heap.size w w' := by
  have hu := Try.underlying40
  have HR := Sh.mk hr0
  have HP := Sh.mk hp
  clear hr0 hp
  go_enter Try.func46, Try.ntmps46
  go_wp2
  go_loopw [8] (fun i wr => ∃ k : Nat, k ≤ l0.length ∧ i = .int .i64 k ∧ Sh (idxB p l0 0 = idxB p (l0.drop k) k) ∧ Sh (Below w.heap.size w wr)) (fun i _ => l0.length - (intOf i).toNat)
  case atStart => exact ⟨0, Nat.zero_le _, rfl, ⟨by simp⟩, ⟨Below.refl _ _⟩⟩
  case round =>
    obtain ⟨k, hk, rfl, HF, HB⟩ := hrel
    by_cases hlt : k < l0.length
    · obtain ⟨ad, rfl, hx0, hx1, hx2, hx3, hx4, hx5⟩ := at_T40 (Kd.C_below HR.out HB.out) (k : Int) (by omega) (by omega)
      have hf := idxB_drop p l0 k hlt (rd_T40 l0 (k : Int)) (by simp [rd_T40, List.getD_eq_getElem?_getD, List.getElem?_eq_getElem hlt])
      rw [Int.toNat_natCast] at hx0 hx1 hx2 hx3 hx4 hx5
      obtain ⟨x, hx⟩ : ∃ x, x = rd_T40 l0 (k : Int) := ⟨_, rfl⟩
      rw [← hx] at hx0 hx1 hx2 hx3 hx4 hx5 hf
      clear hx
      have HC := Sh.mk (HP.out wr HB.out x)
      cases c : p x with
      | true =>
        rw [if_pos c] at hf
        have HV := Sh.mk (HF.out.trans hf)
        have CB := Sh.mk c
        clear hf c
        go_wp2_with (go_at_fn f; (with_reducible refine HC.out.mono ?_); rintro e w2 ⟨rfl, h2⟩; have H2 := Sh.mk h2; clear h2; rw [CB.out])
        go_ret
        exact ⟨by rw [HV.out]; rfl, below_then HB.out HB.out.size H2.out⟩
      | false =>
        rw [c, if_neg (by simp)] at hf
        have HV := Sh.mk (HF.out.trans hf)
        have CB := Sh.mk c
        clear hf c
        go_wp2_with (go_at_fn f; (with_reducible refine HC.out.mono ?_); rintro e w2 ⟨rfl, h2⟩; have H2 := Sh.mk h2; clear h2; rw [CB.out])
        go_roundw
        case rel => exact ⟨k + 1, by omega, by go_num, ⟨HV.out⟩, ⟨below_then HB.out HB.out.size H2.out⟩⟩
        case measure => simp [intOf]; omega
    · obtain rfl : k = l0.length := by omega
      have HV : Sh (idxB p l0 0 = -1) := ⟨by rw [HF.out, List.drop_length]; rfl⟩
      go_wp2
      go_ret
      exact ⟨by rw [HV.out]; rfl, HB.out⟩
set_option maxHeartbeats 1000000 in
theorem contains_op (p : S40 → Bool) (f : Nat) (cs : Array Value) (A0 : Option Addr) (c0 : Nat) (l0 : List S40) (w : World) (eg : ∀ args W, (callFunc f args).run Try.prog W = .ok (.enter f args) W) (hr0 : Kd.C k40 w A0 l0.length l0) (hl : l0.length ≤ 17592186044416)
    (hp : ∀ W, Below w.heap.size w W → ∀ x : S40, Calls Try.prog f (#[.agg #[.int .i64 x.f0.f0, .int .i64 x.f0.f1, .int .i64 x.f0.f2, .int .i64 x.f0.f3, .int .i64 x.f1, .int .i64 x.f2]] ++ cs) W fun e W' => e = .returned (.bool (p x)) ∧ Below W.heap.size W W') :
    Calls Try.prog 31 #[.slice A0 l0.length c0, .func (.func f) #[] cs] w fun e w' => e = .returned (.bool (l0.any p)) ∧ Below w.heap.size w w' := by
  have HI := Sh.mk (index_op p f cs A0 c0 l0 w eg hr0 hl hp)
  have HA := Sh.mk (idxB_any p l0)
  clear hr0 hp
  go_enter Try.func31, Try.ntmps31
  go_wp2_with fail
  (with_reducible refine HI.out.mono ?_); rintro e w2 ⟨rfl, h2⟩
  have H2 := Sh.mk h2
  clear h2
  go_wp2
  go_ret
  exact ⟨by rw [← HA.out]; rfl, H2.out⟩
end Go.Proofs.Ytpddppipjlagfaa
