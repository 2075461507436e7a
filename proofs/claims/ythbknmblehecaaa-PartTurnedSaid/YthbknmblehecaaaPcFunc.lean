/- IndexFunc, ContainsFunc at api.Piece, over any closure. No statement is proved here. -/
import Derived.Test.YthbknmblehecaaaBase
import Derived.Test.YthbknmblehecaaaPlain
import Derived.Shelf.Abstract
namespace Go.Proofs.Ythbknmblehecaaa
set_option linter.unusedVariables false
set_option linter.unusedSimpArgs false
open Go.RowKit Go.Proofs.YthbknmblehecaaaW.PrintWords Go.Proofs.YthbknmblehecaaaW.PrintLast Go.Proofs.YthbknmblehecaaaW.PrintMore Pr

set_option maxHeartbeats 2000000 in
theorem index_pc (p : S58 → Bool) (f : Nat) (cs : Array Value) (A0 : Option Addr) (c0 : Nat) (l0 : List S58) (w : World) (eg : ∀ args W, (callFunc f args).run Try.prog W = .ok (.enter f args) W) (hr0 : Kd.C k58 w A0 l0.length l0) (hl : l0.length ≤ 17592186044416)
    (hp : ∀ W, Below w.heap.size w W → ∀ x : S58, Calls Try.prog f (#[.agg #[.int .i64 x.f0, .int .i64 x.f1]] ++ cs) W fun e W' => e = .returned (.bool (p x)) ∧ Below W.heap.size W W') :
    Calls Try.prog 70 #[.slice A0 l0.length c0, .func (.func f) #[] cs] w fun e w' => e = .returned (.int .i64 (idxB p l0 0)) ∧ Below w.heap.size w w' := by
  have hu := Try.underlying58
  have HR := Sh.mk hr0
  have HP := Sh.mk hp
  clear hr0 hp
  go_enter Try.func70, Try.ntmps70
  go_wp2
  go_loopw [8] (fun i wr => ∃ k : Nat, k ≤ l0.length ∧ i = .int .i64 k ∧ Sh (idxB p l0 0 = idxB p (l0.drop k) k) ∧ Sh (Below w.heap.size w wr)) (fun i _ => l0.length - (intOf i).toNat)
  case atStart => exact ⟨0, Nat.zero_le _, rfl, ⟨by simp⟩, ⟨Below.refl _ _⟩⟩
  case round =>
    obtain ⟨k, hk, rfl, HF, HB⟩ := hrel
    by_cases hlt : k < l0.length
    · obtain ⟨ad, rfl, hx0, hx1⟩ := at_T58 (Kd.C_below HR.out HB.out) (k : Int) (by omega) (by omega)
      have hf := idxB_drop p l0 k hlt (rd_T58 l0 (k : Int)) (by simp [rd_T58, List.getD_eq_getElem?_getD, List.getElem?_eq_getElem hlt])
      rw [Int.toNat_natCast] at hx0 hx1
      obtain ⟨x, hx⟩ : ∃ x, x = rd_T58 l0 (k : Int) := ⟨_, rfl⟩
      rw [← hx] at hx0 hx1 hf
      clear hx
      have HC := Sh.mk (HP.out wr HB.out x)
      cases c : p x with
      | true =>
        rw [if_pos c] at hf
        have HV := Sh.mk (HF.out.trans hf)
        have CB := Sh.mk c
        clear hf c
        go_wp2_with (go_at_fn f; (with_reducible refine HC.out.mono ?_); rintro e w2 ⟨rfl, h2⟩; have H2 := Sh.mk h2; clear h2; rw [CB.out])
        go_ret
        exact ⟨by rw [HV.out]; rfl, below_then HB.out HB.out.size H2.out⟩
      | false =>
        rw [c, if_neg (by simp)] at hf
        have HV := Sh.mk (HF.out.trans hf)
        have CB := Sh.mk c
        clear hf c
        go_wp2_with (go_at_fn f; (with_reducible refine HC.out.mono ?_); rintro e w2 ⟨rfl, h2⟩; have H2 := Sh.mk h2; clear h2; rw [CB.out])
        go_roundw
        case rel => exact ⟨k + 1, by omega, by go_num, ⟨HV.out⟩, ⟨below_then HB.out HB.out.size H2.out⟩⟩
        case measure => simp [intOf]; omega
    · obtain rfl : k = l0.length := by omega
      have HV : Sh (idxB p l0 0 = -1) := ⟨by rw [HF.out, List.drop_length]; rfl⟩
      go_wp2
      go_ret
      exact ⟨by rw [HV.out]; rfl, HB.out⟩
set_option maxHeartbeats 1000000 in
theorem contains_pc (p : S58 → Bool) (f : Nat) (cs : Array Value) (A0 : Option Addr) (c0 : Nat) (l0 : List S58) (w : World) (eg : ∀ args W, (callFunc f args).run Try.prog W = .ok (.enter f args) W) (hr0 : Kd.C k58 w A0 l0.length l0) (hl : l0.length ≤ 17592186044416)
    (hp : ∀ W, Below w.heap.size w W → ∀ x : S58, Calls Try.prog f (#[.agg #[.int .i64 x.f0, .int .i64 x.f1]] ++ cs) W fun e W' => e = .returned (.bool (p x)) ∧ Below W.heap.size W W') :
    Calls Try.prog 63 #[.slice A0 l0.length c0, .func (.func f) #[] cs] w fun e w' => e = .returned (.bool (l0.any p)) ∧ Below w.heap.size w w' := by
  have HI := Sh.mk (index_pc p f cs A0 c0 l0 w eg hr0 hl hp)
  have HA := Sh.mk (idxB_any p l0)
  clear hr0 hp
  go_enter Try.func63, Try.ntmps63
  go_wp2_with fail
  (with_reducible refine HI.out.mono ?_); rintro e w2 ⟨rfl, h2⟩
  have H2 := Sh.mk h2
  clear h2
  go_wp2
  go_ret
  exact ⟨by rw [← HA.out]; rfl, H2.out⟩
end Go.Proofs.Ythbknmblehecaaa
