/- Several texts in one: LiveFunc, LiveSearch. -/
import Derived.Test.YtpddppipjlagfaaBase
import Derived.Test.YtpddppipjlagfaaPlain
import Derived.Shelf.Abstract
/- IndexFunc, ContainsFunc at api.Live, over any closure. No statement is proved here. -/
namespace Go.Proofs.Ytpddppipjlagfaa
set_option linter.unusedVariables false
set_option linter.unusedSimpArgs false
open Go.RowKit Go.Proofs.YtpddppipjlagfaaW.PrintWords Go.Proofs.YtpddppipjlagfaaW.PrintLast Go.Proofs.YtpddppipjlagfaaW.PrintMore Pr

set_option maxHeartbeats 2000000 in
theorem index_live (p : S59 → Bool) (f : Nat) (cs : Array Value) (A0 : Option Addr) (c0 : Nat) (l0 : List S59) (w : World) (eg : ∀ args W, (callFunc f args).run Try.prog W = .ok (.enter f args) W) (hr0 : Kd.C k59 w A0 l0.length l0) (hl : l0.length ≤ 17592186044416)
    (hp : ∀ W, Below w.heap.size w W → ∀ x : S59, Calls Try.prog f (#[.agg #[.int .i64 x.f0, .int .i64 x.f1, .int .i64 x.f2]] ++ cs) W fun e W' => e = .returned (.bool (p x)) ∧ Below W.heap.size W W') :
    Calls Try.prog 65 #[.slice A0 l0.length c0, .func (.func f) #[] cs] w fun e w' => e = .returned (.int .i64 (idxB p l0 0)) ∧ Below w.heap.size w w' := by
  have hu := Try.underlying59
  have HR := Sh.mk hr0
  have HP := Sh.mk hp
  clear hr0 hp
  go_enter Try.func65, Try.ntmps65
  go_wp2
  go_loopw [8] (fun i wr => ∃ k : Nat, k ≤ l0.length ∧ i = .int .i64 k ∧ Sh (idxB p l0 0 = idxB p (l0.drop k) k) ∧ Sh (Below w.heap.size w wr)) (fun i _ => l0.length - (intOf i).toNat)
  case atStart => exact ⟨0, Nat.zero_le _, rfl, ⟨by simp⟩, ⟨Below.refl _ _⟩⟩
  case round =>
    obtain ⟨k, hk, rfl, HF, HB⟩ := hrel
    by_cases hlt : k < l0.length
    · obtain ⟨ad, rfl, hx0, hx1, hx2⟩ := at_T59 (Kd.C_below HR.out HB.out) (k : Int) (by omega) (by omega)
      have hf := idxB_drop p l0 k hlt (rd_T59 l0 (k : Int)) (by simp [rd_T59, List.getD_eq_getElem?_getD, List.getElem?_eq_getElem hlt])
      rw [Int.toNat_natCast] at hx0 hx1 hx2
      obtain ⟨x, hx⟩ : ∃ x, x = rd_T59 l0 (k : Int) := ⟨_, rfl⟩
      rw [← hx] at hx0 hx1 hx2 hf
      clear hx
      have HC := Sh.mk (HP.out wr HB.out x)
      cases c : p x with
      | true =>
        rw [if_pos c] at hf
        have HV := Sh.mk (HF.out.trans hf)
        have CB := Sh.mk c
        clear hf c
        go_wp2_with (go_at_fn f; (with_reducible refine HC.out.mono ?_); rintro e w2 ⟨rfl, h2⟩; have H2 := Sh.mk h2; clear h2; rw [CB.out])
        go_ret
        exact ⟨by rw [HV.out]; rfl, below_then HB.out HB.out.size H2.out⟩
      | false =>
        rw [c, if_neg (by simp)] at hf
        have HV := Sh.mk (HF.out.trans hf)
        have CB := Sh.mk c
        clear hf c
        go_wp2_with (go_at_fn f; (with_reducible refine HC.out.mono ?_); rintro e w2 ⟨rfl, h2⟩; have H2 := Sh.mk h2; clear h2; rw [CB.out])
        go_roundw
        case rel => exact ⟨k + 1, by omega, by go_num, ⟨HV.out⟩, ⟨below_then HB.out HB.out.size H2.out⟩⟩
        case measure => simp [intOf]; omega
    · obtain rfl : k = l0.length := by omega
      have HV : Sh (idxB p l0 0 = -1) := ⟨by rw [HF.out, List.drop_length]; rfl⟩
      go_wp2
      go_ret
      exact ⟨by rw [HV.out]; rfl, HB.out⟩
set_option maxHeartbeats 1000000 in
theorem contains_live (p : S59 → Bool) (f : Nat) (cs : Array Value) (A0 : Option Addr) (c0 : Nat) (l0 : List S59) (w : World) (eg : ∀ args W, (callFunc f args).run Try.prog W = .ok (.enter f args) W) (hr0 : Kd.C k59 w A0 l0.length l0) (hl : l0.length ≤ 17592186044416)
    (hp : ∀ W, Below w.heap.size w W → ∀ x : S59, Calls Try.prog f (#[.agg #[.int .i64 x.f0, .int .i64 x.f1, .int .i64 x.f2]] ++ cs) W fun e W' => e = .returned (.bool (p x)) ∧ Below W.heap.size W W') :
    Calls Try.prog 56 #[.slice A0 l0.length c0, .func (.func f) #[] cs] w fun e w' => e = .returned (.bool (l0.any p)) ∧ Below w.heap.size w w' := by
  have HI := Sh.mk (index_live p f cs A0 c0 l0 w eg hr0 hl hp)
  have HA := Sh.mk (idxB_any p l0)
  clear hr0 hp
  go_enter Try.func56, Try.ntmps56
  go_wp2_with fail
  (with_reducible refine HI.out.mono ?_); rintro e w2 ⟨rfl, h2⟩
  have H2 := Sh.mk h2
  clear h2
  go_wp2
  go_ret
  exact ⟨by rw [← HA.out]; rfl, H2.out⟩
end Go.Proofs.Ytpddppipjlagfaa

/- BinarySearchFunc at api.Live, over any comparison. No statement is proved here. -/
namespace Go.Proofs.Ytpddppipjlagfaa
set_option linter.unusedVariables false
set_option linter.unusedSimpArgs false
open Go.RowKit Go.Proofs.YtpddppipjlagfaaW.PrintWords Go.Proofs.YtpddppipjlagfaaW.PrintLast Go.Proofs.YtpddppipjlagfaaW.PrintMore Pr

set_option maxRecDepth 100000 in
set_option maxHeartbeats 4000000 in
theorem search_live (cf : S59 → Int) (f : Nat) (cs : Array Value) (A0 : Option Addr) (c0 : Nat) (l0 : List S59) (t0 : Int) (w : World) (eg : ∀ args W, (callFunc f args).run Try.prog W = .ok (.enter f args) W) (hr0 : Kd.C k59 w A0 l0.length l0) (hl : l0.length ≤ 17592186044416)
    (hp : ∀ W, Below w.heap.size w W → ∀ x : S59, Calls Try.prog f (#[.agg #[.int .i64 x.f0, .int .i64 x.f1, .int .i64 x.f2], .int .i64 t0] ++ cs) W fun e W' => e = .returned (.int .i64 (cf x)) ∧ Below W.heap.size W W') :
    Calls Try.prog 61 #[.slice A0 l0.length c0, .int .i64 t0, .func (.func f) #[] cs] w fun e w' => e = .returned (.tuple #[.int .i64 (bsI cf l0 0 l0.length : Nat), .bool (bsB cf l0)]) ∧ Below w.heap.size w w' := by
  have hu := Try.underlying59
  have HR := Sh.mk hr0
  have HP := Sh.mk hp
  clear hr0 hp
  go_enter Try.func61, Try.ntmps61
  go_wp2
  go_loopw [9, 10] (fun vi vj wr => ∃ i j : Nat, i ≤ j ∧ j ≤ l0.length ∧ vi = .int .i64 i ∧ vj = .int .i64 j ∧ Sh (bsI cf l0 0 l0.length = bsI cf l0 i j) ∧ Sh (Below w.heap.size w wr)) (fun vi vj _ => (intOf vj).toNat - (intOf vi).toNat)
  case atStart => exact ⟨0, l0.length, Nat.zero_le _, Nat.le_refl _, rfl, rfl, ⟨rfl⟩, ⟨Below.refl _ _⟩⟩
  case round =>
    obtain ⟨i, j, hij, hj, rfl, rfl, HF, HB⟩ := hrel
    by_cases hlt : i < j
    · have q1 : 0 ≤ ((i : Int) + (j : Int)) / 2 := by omega
      have q2 : ((i : Int) + (j : Int)) / 2 < (l0.length : Int) := by omega
      have q3 : (((i : Int) + (j : Int)) / 2).toNat = (i + j) / 2 := by omega
      obtain ⟨ad, rfl, hx0, hx1, hx2⟩ := at_T59 (Kd.C_below HR.out HB.out) (((i : Int) + (j : Int)) / 2) q1 q2
      obtain ⟨x, hx⟩ : ∃ x, x = rd_T59 l0 (((i : Int) + (j : Int)) / 2) := ⟨_, rfl⟩
      rw [← hx] at hx0 hx1 hx2
      have hxx : l0[(i + j) / 2]? = some x := by
        rw [hx, rd_T59, q3, List.getD_eq_getElem?_getD, List.getElem?_eq_getElem (by omega)]
        rfl
      rw [q3] at hx0 hx1 hx2
      have hst := bsI_step cf l0 i j hlt x hxx
      clear hx hxx q3
      have HC := Sh.mk (HP.out wr HB.out x)
      by_cases c : cf x < 0
      · rw [if_pos c] at hst
        have HV := Sh.mk (HF.out.trans hst)
        have b1 : decide (cf x < 0) = true := decide_eq_true c
        clear hst c
        go_wp2_with (go_at_fn f; (with_reducible refine HC.out.mono ?_); rintro e w2 ⟨rfl, h2⟩; have H2 := Sh.mk h2; clear h2)
        go_roundw
        case rel => exact ⟨(i + j) / 2 + 1, j, by omega, by omega, by go_num, rfl, ⟨HV.out⟩, ⟨below_then HB.out HB.out.size H2.out⟩⟩
        case measure => simp [intOf]; omega
      · rw [if_neg c] at hst
        have HV := Sh.mk (HF.out.trans hst)
        have b1 : decide (cf x < 0) = false := decide_eq_false c
        clear hst c
        go_wp2_with (go_at_fn f; (with_reducible refine HC.out.mono ?_); rintro e w2 ⟨rfl, h2⟩; have H2 := Sh.mk h2; clear h2)
        go_roundw
        case rel => exact ⟨i, (i + j) / 2, by omega, by omega, rfl, by go_num, ⟨HV.out⟩, ⟨below_then HB.out HB.out.size H2.out⟩⟩
        case measure => simp [intOf]; omega
    · obtain rfl : i = j := by omega
      have HV : Sh (bsI cf l0 0 l0.length = i) := ⟨by rw [HF.out, bsI_end]⟩
      by_cases hn : i < l0.length
      · have q1 : (0 : Int) ≤ (i : Int) := by omega
        have q2 : (i : Int) < (l0.length : Int) := by omega
        obtain ⟨ad, rfl, hx0, hx1, hx2⟩ := at_T59 (Kd.C_below HR.out HB.out) (i : Int) q1 q2
        obtain ⟨x, hx⟩ : ∃ x, x = rd_T59 l0 (i : Int) := ⟨_, rfl⟩
        rw [← hx] at hx0 hx1 hx2
        rw [Int.toNat_natCast] at hx0 hx1 hx2
        have HX2 : Sh (bsB cf l0 = decide (cf x = 0)) := ⟨by
          unfold bsB
          rw [HV.out, hx, rd_T59, Int.toNat_natCast, List.getD_eq_getElem?_getD, List.getElem?_eq_getElem hn]
          rfl⟩
        clear hx
        have HC := Sh.mk (HP.out wr HB.out x)
        go_wp2_with (go_at_fn f; (with_reducible refine HC.out.mono ?_); rintro e w2 ⟨rfl, h2⟩; have H2 := Sh.mk h2; clear h2)
        go_ret2
        exact ⟨by rw [HV.out, HX2.out]; rfl, below_then HB.out HB.out.size H2.out⟩
      · have HX2 : Sh (bsB cf l0 = false) := ⟨by
          unfold bsB
          rw [HV.out, List.getElem?_eq_none (by omega)]⟩
        go_wp2
        go_ret2
        exact ⟨by rw [HV.out, HX2.out]; rfl, HB.out⟩
end Go.Proofs.Ytpddppipjlagfaa
