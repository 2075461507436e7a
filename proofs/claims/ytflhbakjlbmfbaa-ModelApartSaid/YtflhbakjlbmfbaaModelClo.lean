/- Several texts in one: LiveFunc, LiveSearch, ModelClo. -/
import Derived.Test.YtflhbakjlbmfbaaBase
import Derived.Test.YtflhbakjlbmfbaaPlain
import Derived.Shelf.Abstract
import Derived.Test.YtflhbakjlbmfbaaSizeOver
import Derived.Test.YtflhbakjlbmfbaaOver
import Derived.Deep.RegionHeld3
import Derived.Test.YtflhbakjlbmfbaaPrx22
import Derived.Test.YtflhbakjlbmfbaaPrx9
/- IndexFunc, ContainsFunc at api.Live, over any closure. No statement is proved here. -/
namespace Go.Proofs.Ytflhbakjlbmfbaa
set_option linter.unusedVariables false
set_option linter.unusedSimpArgs false
open Go.RowKit Go.Proofs.YtflhbakjlbmfbaaW.PrintWords Go.Proofs.YtflhbakjlbmfbaaW.PrintLast Go.Proofs.YtflhbakjlbmfbaaW.PrintMore Pr

set_option maxHeartbeats 2000000 in
theorem index_live (p : S48 → Bool) (f : Nat) (cs : Array Value) (A0 : Option Addr) (c0 : Nat) (l0 : List S48) (w : World) (eg : ∀ args W, (callFunc f args).run Try.prog W = .ok (.enter f args) W) (hr0 : Kd.C k48 w A0 l0.length l0) (hl : l0.length ≤ 17592186044416)
    (hp : ∀ W, Below w.heap.size w W → ∀ x : S48, Calls Try.prog f (#[.agg #[.int .i64 x.f0, .int .i64 x.f1, .int .i64 x.f2]] ++ cs) W fun e W' => e = .returned (.bool (p x)) ∧ Below W.heap.size W W') :
    Calls Try.prog 82 #[.slice A0 l0.length c0, .func (.func f) #[] cs] w fun e w' => e = .returned (.int .i64 (idxB p l0 0)) ∧ Below w.heap.size w w' := by
  have hu := Try.underlying48
  have HR := Sh.mk hr0
  have HP := Sh.mk hp
  clear hr0 hp
  go_enter Try.func82, Try.ntmps82
  go_wp2
  go_loopw [8] (fun i wr => ∃ k : Nat, k ≤ l0.length ∧ i = .int .i64 k ∧ Sh (idxB p l0 0 = idxB p (l0.drop k) k) ∧ Sh (Below w.heap.size w wr)) (fun i _ => l0.length - (intOf i).toNat)
  case atStart => exact ⟨0, Nat.zero_le _, rfl, ⟨by simp⟩, ⟨Below.refl _ _⟩⟩
  case round =>
    obtain ⟨k, hk, rfl, HF, HB⟩ := hrel
    by_cases hlt : k < l0.length
    · obtain ⟨ad, rfl, hx0, hx1, hx2⟩ := at_T48 (Kd.C_below HR.out HB.out) (k : Int) (by omega) (by omega)
      have hf := idxB_drop p l0 k hlt (rd_T48 l0 (k : Int)) (by simp [rd_T48, List.getD_eq_getElem?_getD, List.getElem?_eq_getElem hlt])
      rw [Int.toNat_natCast] at hx0 hx1 hx2
      obtain ⟨x, hx⟩ : ∃ x, x = rd_T48 l0 (k : Int) := ⟨_, rfl⟩
      rw [← hx] at hx0 hx1 hx2 hf
      clear hx
      have HC := Sh.mk (HP.out wr HB.out x)
      cases c : p x with
      | true =>
        rw [if_pos c] at hf
        have HV := Sh.mk (HF.out.trans hf)
        have CB := Sh.mk c
        clear hf c
        go_wp2_with (go_at_fn f; (with_reducible refine HC.out.mono ?_); rintro e w2 ⟨rfl, h2⟩; have H2 := Sh.mk h2; clear h2; rw [CB.out])
        go_ret
        exact ⟨by rw [HV.out]; rfl, below_then HB.out HB.out.size H2.out⟩
      | false =>
        rw [c, if_neg (by simp)] at hf
        have HV := Sh.mk (HF.out.trans hf)
        have CB := Sh.mk c
        clear hf c
        go_wp2_with (go_at_fn f; (with_reducible refine HC.out.mono ?_); rintro e w2 ⟨rfl, h2⟩; have H2 := Sh.mk h2; clear h2; rw [CB.out])
        go_roundw
        case rel => exact ⟨k + 1, by omega, by go_num, ⟨HV.out⟩, ⟨below_then HB.out HB.out.size H2.out⟩⟩
        case measure => simp [intOf]; omega
    · obtain rfl : k = l0.length := by omega
      have HV : Sh (idxB p l0 0 = -1) := ⟨by rw [HF.out, List.drop_length]; rfl⟩
      go_wp2
      go_ret
      exact ⟨by rw [HV.out]; rfl, HB.out⟩
set_option maxHeartbeats 1000000 in
theorem contains_live (p : S48 → Bool) (f : Nat) (cs : Array Value) (A0 : Option Addr) (c0 : Nat) (l0 : List S48) (w : World) (eg : ∀ args W, (callFunc f args).run Try.prog W = .ok (.enter f args) W) (hr0 : Kd.C k48 w A0 l0.length l0) (hl : l0.length ≤ 17592186044416)
    (hp : ∀ W, Below w.heap.size w W → ∀ x : S48, Calls Try.prog f (#[.agg #[.int .i64 x.f0, .int .i64 x.f1, .int .i64 x.f2]] ++ cs) W fun e W' => e = .returned (.bool (p x)) ∧ Below W.heap.size W W') :
    Calls Try.prog 53 #[.slice A0 l0.length c0, .func (.func f) #[] cs] w fun e w' => e = .returned (.bool (l0.any p)) ∧ Below w.heap.size w w' := by
  have HI := Sh.mk (index_live p f cs A0 c0 l0 w eg hr0 hl hp)
  have HA := Sh.mk (idxB_any p l0)
  clear hr0 hp
  go_enter Try.func53, Try.ntmps53
  go_wp2_with fail
  (with_reducible refine HI.out.mono ?_); rintro e w2 ⟨rfl, h2⟩
  have H2 := Sh.mk h2
  clear h2
  go_wp2
  go_ret
  exact ⟨by rw [← HA.out]; rfl, H2.out⟩
end Go.Proofs.Ytflhbakjlbmfbaa

/- BinarySearchFunc at api.Live, over any comparison. No statement is proved here. -/
namespace Go.Proofs.Ytflhbakjlbmfbaa
set_option linter.unusedVariables false
set_option linter.unusedSimpArgs false
open Go.RowKit Go.Proofs.YtflhbakjlbmfbaaW.PrintWords Go.Proofs.YtflhbakjlbmfbaaW.PrintLast Go.Proofs.YtflhbakjlbmfbaaW.PrintMore Pr

set_option maxRecDepth 100000 in
set_option maxHeartbeats 4000000 in
theorem search_live (cf : S48 → Int) (f : Nat) (cs : Array Value) (A0 : Option Addr) (c0 : Nat) (l0 : List S48) (t0 : Int) (w : World) (eg : ∀ args W, (callFunc f args).run Try.prog W = .ok (.enter f args) W) (hr0 : Kd.C k48 w A0 l0.length l0) (hl : l0.length ≤ 17592186044416)
    (hp : ∀ W, Below w.heap.size w W → ∀ x : S48, Calls Try.prog f (#[.agg #[.int .i64 x.f0, .int .i64 x.f1, .int .i64 x.f2], .int .i64 t0] ++ cs) W fun e W' => e = .returned (.int .i64 (cf x)) ∧ Below W.heap.size W W') :
    Calls Try.prog 83 #[.slice A0 l0.length c0, .int .i64 t0, .func (.func f) #[] cs] w fun e w' => e = .returned (.tuple #[.int .i64 (bsI cf l0 0 l0.length : Nat), .bool (bsB cf l0)]) ∧ Below w.heap.size w w' := by
  have hu := Try.underlying48
  have HR := Sh.mk hr0
  have HP := Sh.mk hp
  clear hr0 hp
  go_enter Try.func83, Try.ntmps83
  go_wp2
  go_loopw [9, 10] (fun vi vj wr => ∃ i j : Nat, i ≤ j ∧ j ≤ l0.length ∧ vi = .int .i64 i ∧ vj = .int .i64 j ∧ Sh (bsI cf l0 0 l0.length = bsI cf l0 i j) ∧ Sh (Below w.heap.size w wr)) (fun vi vj _ => (intOf vj).toNat - (intOf vi).toNat)
  case atStart => exact ⟨0, l0.length, Nat.zero_le _, Nat.le_refl _, rfl, rfl, ⟨rfl⟩, ⟨Below.refl _ _⟩⟩
  case round =>
    obtain ⟨i, j, hij, hj, rfl, rfl, HF, HB⟩ := hrel
    by_cases hlt : i < j
    · have q1 : 0 ≤ ((i : Int) + (j : Int)) / 2 := by omega
      have q2 : ((i : Int) + (j : Int)) / 2 < (l0.length : Int) := by omega
      have q3 : (((i : Int) + (j : Int)) / 2).toNat = (i + j) / 2 := by omega
      obtain ⟨ad, rfl, hx0, hx1, hx2⟩ := at_T48 (Kd.C_below HR.out HB.out) (((i : Int) + (j : Int)) / 2) q1 q2
      obtain ⟨x, hx⟩ : ∃ x, x = rd_T48 l0 (((i : Int) + (j : Int)) / 2) := ⟨_, rfl⟩
      rw [← hx] at hx0 hx1 hx2
      have hxx : l0[(i + j) / 2]? = some x := by
        rw [hx, rd_T48, q3, List.getD_eq_getElem?_getD, List.getElem?_eq_getElem (by omega)]
        rfl
      rw [q3] at hx0 hx1 hx2
      have hst := bsI_step cf l0 i j hlt x hxx
      clear hx hxx q3
      have HC := Sh.mk (HP.out wr HB.out x)
      by_cases c : cf x < 0
      · rw [if_pos c] at hst
        have HV := Sh.mk (HF.out.trans hst)
        have b1 : decide (cf x < 0) = true := decide_eq_true c
        clear hst c
        go_wp2_with (go_at_fn f; (with_reducible refine HC.out.mono ?_); rintro e w2 ⟨rfl, h2⟩; have H2 := Sh.mk h2; clear h2)
        go_roundw
        case rel => exact ⟨(i + j) / 2 + 1, j, by omega, by omega, by go_num, rfl, ⟨HV.out⟩, ⟨below_then HB.out HB.out.size H2.out⟩⟩
        case measure => simp [intOf]; omega
      · rw [if_neg c] at hst
        have HV := Sh.mk (HF.out.trans hst)
        have b1 : decide (cf x < 0) = false := decide_eq_false c
        clear hst c
        go_wp2_with (go_at_fn f; (with_reducible refine HC.out.mono ?_); rintro e w2 ⟨rfl, h2⟩; have H2 := Sh.mk h2; clear h2)
        go_roundw
        case rel => exact ⟨i, (i + j) / 2, by omega, by omega, rfl, by go_num, ⟨HV.out⟩, ⟨below_then HB.out HB.out.size H2.out⟩⟩
        case measure => simp [intOf]; omega
    · obtain rfl : i = j := by omega
      have HV : Sh (bsI cf l0 0 l0.length = i) := ⟨by rw [HF.out, bsI_end]⟩
      by_cases hn : i < l0.length
      · have q1 : (0 : Int) ≤ (i : Int) := by omega
        have q2 : (i : Int) < (l0.length : Int) := by omega
        obtain ⟨ad, rfl, hx0, hx1, hx2⟩ := at_T48 (Kd.C_below HR.out HB.out) (i : Int) q1 q2
        obtain ⟨x, hx⟩ : ∃ x, x = rd_T48 l0 (i : Int) := ⟨_, rfl⟩
        rw [← hx] at hx0 hx1 hx2
        rw [Int.toNat_natCast] at hx0 hx1 hx2
        have HX2 : Sh (bsB cf l0 = decide (cf x = 0)) := ⟨by
          unfold bsB
          rw [HV.out, hx, rd_T48, Int.toNat_natCast, List.getD_eq_getElem?_getD, List.getElem?_eq_getElem hn]
          rfl⟩
        clear hx
        have HC := Sh.mk (HP.out wr HB.out x)
        go_wp2_with (go_at_fn f; (with_reducible refine HC.out.mono ?_); rintro e w2 ⟨rfl, h2⟩; have H2 := Sh.mk h2; clear h2)
        go_ret2
        exact ⟨by rw [HV.out, HX2.out]; rfl, below_then HB.out HB.out.size H2.out⟩
      · have HX2 : Sh (bsB cf l0 = false) := ⟨by
          unfold bsB
          rw [HV.out, List.getElem?_eq_none (by omega)]⟩
        go_wp2
        go_ret2
        exact ⟨by rw [HV.out, HX2.out]; rfl, HB.out⟩
end Go.Proofs.Ytflhbakjlbmfbaa

/- The function values of package model: contracts. No statement is proved here. -/
namespace Go.Proofs.Ytflhbakjlbmfbaa
set_option linter.unusedVariables false
set_option linter.unusedSimpArgs false
open Go.RowKit Go.Proofs.YtflhbakjlbmfbaaW.PrintWords Go.Proofs.YtflhbakjlbmfbaaW.PrintLast Go.Proofs.YtflhbakjlbmfbaaW.PrintMore Pr

/-- Whether a stack has a word in common with another. -/
def liveOver (b x : S48) : Bool := overS b.f0 (sizeRow b.f1).1 x.f0 (sizeRow x.f1).1
/-- A stack's address against another one. -/
def liveAt (t : Int) (x : S48) : Int := if x.f0 < t then -1 else if x.f0 > t then 1 else 0
theorem compare_isL (a b : Int) : cmp_Compare_int.f a b = some (if a < b then -1 else if a > b then 1 else 0) := by
  simp only [cmp_Compare_int.f, cmp_isNaN_int.f, Option.bind_some]
  simp
  split
  · rfl
  · split <;> rfl
set_option maxHeartbeats 2000000 in
theorem clo_livePlace (x : S48) (t : Int) (w : World) :
    Calls Try.prog 84 (#[.agg #[.int .i64 x.f0, .int .i64 x.f1, .int .i64 x.f2], .int .i64 t] ++ #[]) w fun e w' => e = .returned (.int .i64 (liveAt t x)) ∧ Below w.heap.size w w' := by
  obtain ⟨x0, x1, x2⟩ := x
  have hB1 : Below w.heap.size w (w.alloc (.cells #[.int .i64 x0, .int .i64 x1, .int .i64 x2] 48)) := below_alloc (Below.refl w.heap.size w) _
  have hk : Blk (w.alloc (.cells #[.int .i64 x0, .int .i64 x1, .int .i64 x2] 48)) w.heap.size 48 #[.int .i64 x0, .int .i64 x1, .int .i64 x2] := Blk.new _ _ _
  have d0 : (w.alloc (.cells #[.int .i64 x0, .int .i64 x1, .int .i64 x2] 48)).cell? ⟨w.heap.size, 0, none⟩ = some (.int .i64 x0) := (hk.cell 0).trans rfl
  have HB := Sh.mk hB1
  have HO : Sh (cmp_Compare_int.f x0 t = some (liveAt t ⟨x0, x1, x2⟩)) := ⟨compare_isL x0 t⟩
  clear hB1 hk
  go_enter Try.func84, Try.ntmps84
  go_wp2_with (first | (go_at_call 76; (with_reducible refine (cmp_Compare_int.calls _ _ _ _ HO.out).mono ?_); rintro e w2 ⟨rfl, ⟨nd, rfl⟩⟩))
  go_ret
  exact ⟨rfl, below_step HB.out ((Kp.refl [] _).drewN _).below⟩
theorem search_livePlace (A0 : Option Addr) (c0 : Nat) (l0 : List S48) (t : Int) (w : World) (hr0 : Kd.C k48 w A0 l0.length l0) (hl : l0.length ≤ 17592186044416) :
    Calls Try.prog 83 #[.slice A0 l0.length c0, .int .i64 t, .func (.func 84) #[] #[]] w fun e w' => e = .returned (.tuple #[.int .i64 (bsI (liveAt t) l0 0 l0.length : Nat), .bool (bsB (liveAt t) l0)]) ∧ Below w.heap.size w w' :=
  search_live (liveAt t) 84 #[] A0 c0 l0 t w (enters_of Try.func84 (by kernel_rfl) rfl) hr0 hl (fun W hW x => clo_livePlace x t W)
set_option maxHeartbeats 2000000 in
theorem clo_liveAlloc (x : S48) (b0 b1 b2 : Int) (bn : Nat) (w : World) (h0 : w.cell? ⟨bn, 0, none⟩ = some (.int .i64 b0)) (h1 : w.cell? ⟨bn, 1, none⟩ = some (.int .i64 b1)) (h2 : w.cell? ⟨bn, 2, none⟩ = some (.int .i64 b2)) :
    Calls Try.prog 54 (#[.agg #[.int .i64 x.f0, .int .i64 x.f1, .int .i64 x.f2]] ++ #[.pointer (some ⟨bn, 0, none⟩)]) w fun e w' => e = .returned (.bool (liveOver ⟨b0, b1, b2⟩ x)) ∧ Below w.heap.size w w' := by
  obtain ⟨x0, x1, x2⟩ := x
  have hbl : bn < w.heap.size := World.block_lt_of_cell? _ _ h0
  have hB1 : Below w.heap.size w (w.alloc (.cells #[.int .i64 x0, .int .i64 x1, .int .i64 x2] 48)) := below_alloc (Below.refl w.heap.size w) _
  have hk : Blk (w.alloc (.cells #[.int .i64 x0, .int .i64 x1, .int .i64 x2] 48)) w.heap.size 48 #[.int .i64 x0, .int .i64 x1, .int .i64 x2] := Blk.new _ _ _
  have c0 : (w.alloc (.cells #[.int .i64 x0, .int .i64 x1, .int .i64 x2] 48)).cell? ⟨bn, 0, none⟩ = some (.int .i64 b0) := (hB1.cell hbl).trans h0
  have d0 : (w.alloc (.cells #[.int .i64 x0, .int .i64 x1, .int .i64 x2] 48)).cell? ⟨w.heap.size, 0, none⟩ = some (.int .i64 x0) := (hk.cell 0).trans rfl
  have c1 : (w.alloc (.cells #[.int .i64 x0, .int .i64 x1, .int .i64 x2] 48)).cell? ⟨bn, 1, none⟩ = some (.int .i64 b1) := (hB1.cell hbl).trans h1
  have d1 : (w.alloc (.cells #[.int .i64 x0, .int .i64 x1, .int .i64 x2] 48)).cell? ⟨w.heap.size, 1, none⟩ = some (.int .i64 x1) := (hk.cell 1).trans rfl
  have c2 : (w.alloc (.cells #[.int .i64 x0, .int .i64 x1, .int .i64 x2] 48)).cell? ⟨bn, 2, none⟩ = some (.int .i64 b2) := (hB1.cell hbl).trans h2
  have d2 : (w.alloc (.cells #[.int .i64 x0, .int .i64 x1, .int .i64 x2] 48)).cell? ⟨w.heap.size, 2, none⟩ = some (.int .i64 x2) := (hk.cell 2).trans rfl
  have HB := Sh.mk hB1
  have HO : Sh (model_over.f b0 b1 b2 x0 x1 x2 = some (liveOver ⟨b0, b1, b2⟩ ⟨x0, x1, x2⟩)) := ⟨rfl⟩
  clear hB1 hk h0 h1 h2
  go_enter Try.func54, Try.ntmps54
  go_wp2_with (first | (go_at_call 55; (with_reducible refine (model_over.calls _ _ _ _ _ _ _ _ HO.out).mono ?_); rintro e w2 ⟨rfl, h2⟩; have H2 := Sh.mk h2; clear h2))
  go_ret
  exact ⟨rfl, below_step HB.out H2.out⟩
theorem contains_liveAlloc (A0 : Option Addr) (c0 : Nat) (l0 : List S48) (g : Nat) (b0 b1 b2 : Int) (w : World) (hr0 : Kd.C k48 w A0 l0.length l0) (hl : l0.length ≤ 17592186044416) (hk : w.heap[g]? = some (.cells #[.int .i64 b0, .int .i64 b1, .int .i64 b2] 48 (0, 0))) :
    Calls Try.prog 53 #[.slice A0 l0.length c0, .func (.func 54) #[] #[.pointer (some ⟨g, 0, none⟩)]] w fun e w' => e = .returned (.bool (l0.any (liveOver ⟨b0, b1, b2⟩))) ∧ Below w.heap.size w w' :=
  contains_live (liveOver ⟨b0, b1, b2⟩) 54 _ A0 c0 l0 w (enters_of Try.func54 (by kernel_rfl) rfl) hr0 hl (fun W hW x => by
    have hk' : W.heap[g]? = some (.cells #[.int .i64 b0, .int .i64 b1, .int .i64 b2] 48 (0, 0)) := blk_below hk hW
    exact clo_liveAlloc x b0 b1 b2 g W ((blk_cell hk' 0).trans rfl) ((blk_cell hk' 1).trans rfl) ((blk_cell hk' 2).trans rfl))
set_option maxHeartbeats 1000000 in
theorem place_any (A0 : Option Addr) (c0 : Nat) (l0 : List S48) (t : Int) (w : World) (hr0 : Kd.C k48 w A0 l0.length l0) (hl : l0.length ≤ 17592186044416) :
    Calls Try.prog 56 #[.slice A0 l0.length c0, .int .i64 t] w fun e w' => e = .returned (.tuple #[.int .i64 (bsI (liveAt t) l0 0 l0.length : Nat), .bool (bsB (liveAt t) l0)]) ∧ Below w.heap.size w w' := by
  have HS := Sh.mk (search_livePlace A0 c0 l0 t w hr0 hl)
  clear hr0
  obtain ⟨r1, hr1⟩ : ∃ r, r = bsI (liveAt t) l0 0 l0.length := ⟨_, rfl⟩
  obtain ⟨r2, hr2⟩ : ∃ r, r = bsB (liveAt t) l0 := ⟨_, rfl⟩
  rw [← hr1, ← hr2] at HS ⊢
  clear hr1 hr2
  go_enter Try.func56, Try.ntmps56
  go_wp2_with fail
  (with_reducible refine HS.out.mono ?_); rintro e w2 ⟨rfl, h2⟩
  have H2 := Sh.mk h2
  clear h2
  go_wp2
  go_ret2
  exact ⟨rfl, H2.out⟩
end Go.Proofs.Ytflhbakjlbmfbaa
