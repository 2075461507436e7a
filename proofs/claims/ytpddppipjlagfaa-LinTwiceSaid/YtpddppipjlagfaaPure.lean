/- Several texts in one: Prx2, LiveSearch, Prx4, Pure, Scope, Prx1, Prx11. -/
import Derived.Test.YtpddppipjlagfaaPrx0
import Derived.Test.YtpddppipjlagfaaSizeOver
import Derived.Test.YtpddppipjlagfaaBase
import Derived.Test.YtpddppipjlagfaaWArr
import Derived.Shelf.Abstract
import Derived.Test.YtpddppipjlagfaaOver
import Derived.WalkMore
import Derived.Test.YtpddppipjlagfaaDelLive
-- Printed by a program of this session (wip/tools/myprint.py) that runs the kit's print with contracts of this session's own.
namespace Go.Proofs.Ytpddppipjlagfaa.Pr
open Go.RowKit Go.Proofs.YtpddppipjlagfaaW.PrintWords Go.Proofs.YtpddppipjlagfaaW.PrintLast Go.Proofs.YtpddppipjlagfaaW.PrintMore
attribute [local go_sem] max2_int min2_int max_two min_two max_three min_three max_four min_four   -- for this text's walks alone
set_option linter.unusedVariables false
set_option linter.unusedSimpArgs false

/-! ### size_of: function 53 (a contract of this session's own) -/
def size_of.f (a0 : Int) : Option (Int × Int × Int × Int) := some (sizeRow a0)
theorem size_of.calls (a0 : Int) (r1 r2 r3 r4 : Int) (w : World) (h : size_of.f a0 = some (r1, r2, r3, r4)) :
  Calls Try.prog 53 #[.int .i64 a0] w fun e w' => e = .returned (.agg #[.int .i64 r1, .int .i64 r2, .int .i64 r3, .int .i64 r4]) ∧ Below w.heap.size w w' := by
 have h1 := Option.some.inj h
 have h2 := size_any a0 w
 unfold SizePost at h2
 rw [h1] at h2
 exact h2

end Go.Proofs.Ytpddppipjlagfaa.Pr

/- BinarySearchFunc at api.Live, over any comparison. No statement is proved here. -/
namespace Go.Proofs.Ytpddppipjlagfaa
set_option linter.unusedVariables false
set_option linter.unusedSimpArgs false
open Go.RowKit Go.Proofs.YtpddppipjlagfaaW.PrintWords Go.Proofs.YtpddppipjlagfaaW.PrintLast Go.Proofs.YtpddppipjlagfaaW.PrintMore Pr

set_option maxRecDepth 100000 in
set_option maxHeartbeats 4000000 in
theorem search_live (cf : S59 → Int) (f : Nat) (cs : Array Value) (A0 : Option Addr) (c0 : Nat) (l0 : List S59) (t0 : Int) (w : World) (eg : ∀ args W, (callFunc f args).run Try.prog W = .ok (.enter f args) W) (hr0 : Kd.C k59 w A0 l0.length l0) (hl : l0.length ≤ 17592186044416)
    (hp : ∀ W, Below w.heap.size w W → ∀ x : S59, Calls Try.prog f (#[.agg #[.int .i64 x.f0, .int .i64 x.f1, .int .i64 x.f2], .int .i64 t0] ++ cs) W fun e W' => e = .returned (.int .i64 (cf x)) ∧ Below W.heap.size W W') :
    Calls Try.prog 61 #[.slice A0 l0.length c0, .int .i64 t0, .func (.func f) #[] cs] w fun e w' => e = .returned (.tuple #[.int .i64 (bsI cf l0 0 l0.length : Nat), .bool (bsB cf l0)]) ∧ Below w.heap.size w w' := by
  have hu := Try.underlying59
  have HR := Sh.mk hr0
  have HP := Sh.mk hp
  clear hr0 hp
  go_enter Try.func61, Try.ntmps61
  go_wp2
  go_loopw [9, 10] (fun vi vj wr => ∃ i j : Nat, i ≤ j ∧ j ≤ l0.length ∧ vi = .int .i64 i ∧ vj = .int .i64 j ∧ Sh (bsI cf l0 0 l0.length = bsI cf l0 i j) ∧ Sh (Below w.heap.size w wr)) (fun vi vj _ => (intOf vj).toNat - (intOf vi).toNat)
  case atStart => exact ⟨0, l0.length, Nat.zero_le _, Nat.le_refl _, rfl, rfl, ⟨rfl⟩, ⟨Below.refl _ _⟩⟩
  case round =>
    obtain ⟨i, j, hij, hj, rfl, rfl, HF, HB⟩ := hrel
    by_cases hlt : i < j
    · have q1 : 0 ≤ ((i : Int) + (j : Int)) / 2 := by omega
      have q2 : ((i : Int) + (j : Int)) / 2 < (l0.length : Int) := by omega
      have q3 : (((i : Int) + (j : Int)) / 2).toNat = (i + j) / 2 := by omega
      obtain ⟨ad, rfl, hx0, hx1, hx2⟩ := at_T59 (Kd.C_below HR.out HB.out) (((i : Int) + (j : Int)) / 2) q1 q2
      obtain ⟨x, hx⟩ : ∃ x, x = rd_T59 l0 (((i : Int) + (j : Int)) / 2) := ⟨_, rfl⟩
      rw [← hx] at hx0 hx1 hx2
      have hxx : l0[(i + j) / 2]? = some x := by
        rw [hx, rd_T59, q3, List.getD_eq_getElem?_getD, List.getElem?_eq_getElem (by omega)]
        rfl
      rw [q3] at hx0 hx1 hx2
      have hst := bsI_step cf l0 i j hlt x hxx
      clear hx hxx q3
      have HC := Sh.mk (HP.out wr HB.out x)
      by_cases c : cf x < 0
      · rw [if_pos c] at hst
        have HV := Sh.mk (HF.out.trans hst)
        have b1 : decide (cf x < 0) = true := decide_eq_true c
        clear hst c
        go_wp2_with (go_at_fn f; (with_reducible refine HC.out.mono ?_); rintro e w2 ⟨rfl, h2⟩; have H2 := Sh.mk h2; clear h2)
        go_roundw
        case rel => exact ⟨(i + j) / 2 + 1, j, by omega, by omega, by go_num, rfl, ⟨HV.out⟩, ⟨below_then HB.out HB.out.size H2.out⟩⟩
        case measure => simp [intOf]; omega
      · rw [if_neg c] at hst
        have HV := Sh.mk (HF.out.trans hst)
        have b1 : decide (cf x < 0) = false := decide_eq_false c
        clear hst c
        go_wp2_with (go_at_fn f; (with_reducible refine HC.out.mono ?_); rintro e w2 ⟨rfl, h2⟩; have H2 := Sh.mk h2; clear h2)
        go_roundw
        case rel => exact ⟨i, (i + j) / 2, by omega, by omega, rfl, by go_num, ⟨HV.out⟩, ⟨below_then HB.out HB.out.size H2.out⟩⟩
        case measure => simp [intOf]; omega
    · obtain rfl : i = j := by omega
      have HV : Sh (bsI cf l0 0 l0.length = i) := ⟨by rw [HF.out, bsI_end]⟩
      by_cases hn : i < l0.length
      · have q1 : (0 : Int) ≤ (i : Int) := by omega
        have q2 : (i : Int) < (l0.length : Int) := by omega
        obtain ⟨ad, rfl, hx0, hx1, hx2⟩ := at_T59 (Kd.C_below HR.out HB.out) (i : Int) q1 q2
        obtain ⟨x, hx⟩ : ∃ x, x = rd_T59 l0 (i : Int) := ⟨_, rfl⟩
        rw [← hx] at hx0 hx1 hx2
        rw [Int.toNat_natCast] at hx0 hx1 hx2
        have HX2 : Sh (bsB cf l0 = decide (cf x = 0)) := ⟨by
          unfold bsB
          rw [HV.out, hx, rd_T59, Int.toNat_natCast, List.getD_eq_getElem?_getD, List.getElem?_eq_getElem hn]
          rfl⟩
        clear hx
        have HC := Sh.mk (HP.out wr HB.out x)
        go_wp2_with (go_at_fn f; (with_reducible refine HC.out.mono ?_); rintro e w2 ⟨rfl, h2⟩; have H2 := Sh.mk h2; clear h2)
        go_ret2
        exact ⟨by rw [HV.out, HX2.out]; rfl, below_then HB.out HB.out.size H2.out⟩
      · have HX2 : Sh (bsB cf l0 = false) := ⟨by
          unfold bsB
          rw [HV.out, List.getElem?_eq_none (by omega)]⟩
        go_wp2
        go_ret2
        exact ⟨by rw [HV.out, HX2.out]; rfl, HB.out⟩
end Go.Proofs.Ytpddppipjlagfaa

-- Printed by a program of this session (wip/tools/myprint.py) that runs the kit's print with contracts of this session's own.
namespace Go.Proofs.Ytpddppipjlagfaa.Pr
open Go.RowKit Go.Proofs.YtpddppipjlagfaaW.PrintWords Go.Proofs.YtpddppipjlagfaaW.PrintLast Go.Proofs.YtpddppipjlagfaaW.PrintMore
attribute [local go_sem] max2_int min2_int max_two min_two max_three min_three max_four min_four   -- for this text's walks alone
set_option linter.unusedVariables false
set_option linter.unusedSimpArgs false

/-! ### num_Over: function 66 (a contract of this session's own) -/
def num_Over.f (a0 a1 a2 a3 : Int) : Option (Bool) := some (overS a0 a1 a2 a3)
theorem num_Over.calls (a0 a1 a2 a3 : Int) (r : Bool) (w : World) (h : num_Over.f a0 a1 a2 a3 = some r) :
  Calls Try.prog 66 #[.int .i64 a0, .int .i64 a1, .int .i64 a2, .int .i64 a3] w fun e w' => e = .returned (.bool r) ∧ Drawn0 w w' := by
 obtain rfl := Option.some.inj h
 exact over_any a0 a1 a2 a3 w

end Go.Proofs.Ytpddppipjlagfaa.Pr

/- Plain words on rounds, wrapped numbers and lists. No statement is proved here. -/
namespace Go.Proofs.Ytpddppipjlagfaa.Pure
open Go.RowKit Go.Proofs.Ytpddppipjlagfaa.Pr Go.Proofs.YtpddppipjlagfaaW.PrintWords Go.Proofs.YtpddppipjlagfaaW.PrintLast Go.Proofs.YtpddppipjlagfaaW.PrintMore

theorem w64 {n : Int} (h1 : -9223372036854775808 ≤ n) (h2 : n ≤ 9223372036854775807) : wrap64 n = n := by unfold wrap64; omega
theorem tmod_emod {n m : Int} (h : 0 ≤ n) : Int.tmod n m = n % m := Int.tmod_eq_emod_of_nonneg h
theorem u8_of {x : Int} (h : (Lit.int .u8 x).wf = true) : 0 ≤ x ∧ x ≤ 255 := by
  simp only [Lit.wf, Bool.and_eq_true, decide_eq_true_eq] at h
  have h1 : IntKind.u8.min = 0 := by decide
  have h2 : IntKind.u8.max = 255 := by decide
  omega
theorem u16_of {x : Int} (h : (Lit.int .u16 x).wf = true) : 0 ≤ x ∧ x ≤ 65535 := by
  simp only [Lit.wf, Bool.and_eq_true, decide_eq_true_eq] at h
  have h1 : IntKind.u16.min = 0 := by decide
  have h2 : IntKind.u16.max = 65535 := by decide
  omega
theorem i64_of {x : Int} (h : (Lit.int .i64 x).wf = true) : -9223372036854775808 ≤ x ∧ x ≤ 9223372036854775807 := by
  simp only [Lit.wf, Bool.and_eq_true, decide_eq_true_eq] at h
  have h1 : IntKind.i64.min = -9223372036854775808 := by decide
  have h2 : IntKind.i64.max = 9223372036854775807 := by decide
  omega
theorem rd_u8 {l : List Int} (h : ∀ x ∈ l, (Lit.int .u8 x).wf = true) (i : Int) : 0 ≤ rd l i ∧ rd l i ≤ 255 := by
  unfold rd
  rw [List.getD_eq_getElem?_getD]
  cases hq : l[i.toNat]? with
  | none => simp
  | some x => simpa using u8_of (h x (List.mem_of_getElem? hq))
theorem Ev.uniq {α : Type} {g : Nat → Option α} {r q : α} (h : Ev g r) (k : Ev g q) : r = q := by
  obtain ⟨K, hK⟩ := h
  obtain ⟨K', hK'⟩ := k
  have h1 := hK (K + K') (by omega)
  rw [hK' (K + K') (by omega)] at h1
  exact (Option.some.inj h1).symm
theorem Ev.some_ {α : Type} {g : Nat → Option α} {r : α} (h : ∀ k, g k = some r) : Ev g r := ⟨0, fun k _ => h k⟩
theorem Ev.step1 {α : Type} {g : Nat → Option α} {r : α} (h : ∀ k, g (k + 1) = some r) : Ev g r := Ev.step (f := fun _ => some r) h (Ev.now r)
theorem Ev.eq {α : Type} {g : Nat → Option α} {r q : α} (h : Ev g r) (e : r = q) : Ev g q := e ▸ h
end Go.Proofs.Ytpddppipjlagfaa.Pure

/- A function's body that lies in a scope and holds no goto. No statement is proved here. -/
namespace Go.Proofs.Ytpddppipjlagfaa
theorem noGoto_body {P : Program} {fn : Func} {R : Ending → World → Prop} : Exit.noGoto (bodyPost P fn R) = bodyPost P fn R := by
  funext e a w
  cases e <;> rfl
theorem wp_scope_body {P : Program} {fn : Func} {R : Ending → World → Prop} {c : Code} {a : Act} {w : World} (h : c.wp P (bodyPost P fn R) a w) : (Code.scope c).wp P (bodyPost P fn R) a w :=
  wp_scope_straight (by rw [noGoto_body]; exact h)
abbrev tt : Bool := true
abbrev ff : Bool := false
abbrev msk (a b : Nat) : Array Bool := (List.replicate a true ++ List.replicate b false).toArray
end Go.Proofs.Ytpddppipjlagfaa

-- Printed by a program of this session (wip/tools/myprint.py) that runs the kit's print with contracts of this session's own.
namespace Go.Proofs.Ytpddppipjlagfaa.Pr
open Go.RowKit Go.Proofs.YtpddppipjlagfaaW.PrintWords Go.Proofs.YtpddppipjlagfaaW.PrintLast Go.Proofs.YtpddppipjlagfaaW.PrintMore
attribute [local go_sem] max2_int min2_int max_two min_two max_three min_three max_four min_four   -- for this text's walks alone
set_option linter.unusedVariables false
set_option linter.unusedSimpArgs false

/-! ### api_Live_29: function 29 (a contract of this session's own) -/
def api_Live_29.f (l0 : List (S59)) : Option (List (S59)) := if l0.length < 5864062014805 then some l0 else none
set_option maxHeartbeats 1000000 in
theorem api_Live_29.calls (A0 : Option Addr) (c0 : Nat) (l0 : List (S59)) (r : List (S59)) (w : World) (hr0 : Kd.C k59 w A0 l0.length l0) (hc0 : l0.length ≤ c0) (h : api_Live_29.f l0 = some r) :
  Calls Try.prog 29 #[.slice A0 l0.length c0] w fun e w' => ∃ v0_ : Value, e = .returned (v0_) ∧ Kd.R k59 59 w' w.heap.size (fun _ => True) v0_ r ∧ Below w.heap.size w w' := by
 have hlim : l0.length < 5864062014805 ∧ l0 = r := by
  unfold api_Live_29.f at h
  by_cases hl : l0.length < 5864062014805
  ·rw [if_pos hl] at h
   exact ⟨hl, Option.some.inj h⟩
  ·rw [if_neg hl] at h
   cases h
 obtain ⟨hl, he⟩ := hlim
 clear h
 subst he
 have HR0 := Aside0.mk hr0
 have HL0 := Aside0.mk hl
 have HB := Aside0.mk (Below.refl w.heap.size w)
 clear hl hc0
 rcases A0 with _ | ad
 ·have h00 : l0 = [] := by
   rcases Nat.eq_zero_or_pos l0.length with h1 | h1
   ·exact List.eq_nil_of_length_eq_zero h1
   ·obtain ⟨ad, h2, _⟩ := hr0.2.2 h1
    cases h2
  clear hr0 HR0 HL0
  subst h00
  have h0 := fun (w : World) => Lib.run_eql_slice_nil (P := Try.prog) w 41 59 none 0 c0 0 0 Try.underlying41
  go_enter Try.func29, Try.ntmps29
  go_wp2
  go_ret
  exact ⟨_, rfl, Kd.R_nil _ _ _ _ _, Below.refl _ _⟩
 ·clear hr0
  have h0 := fun (w : World) => Lib.run_eql_slice_nil (P := Try.prog) w 41 59 (some ad) l0.length c0 0 0 Try.underlying41
  go_enter Try.func29, Try.ntmps29
  go_wp2_with (first | ((with_reducible refine gate_builtin (b := .append) (xs := #[.tmp 5, .tmp 6]) rfl ?_); at_builtin; refine Kd.R_append_rows k59 (w0 := w) w.heap.size rfl (.tmp 5) (.tmp 6) 41 59 (.agg #[(.int .i64 0), (.int .i64 0), (.int .i64 0)]) 24 rfl Try.underlying41 info59 rfl (by decide) (by omega) (.slice (some ⟨w.heap.size, 0, none⟩) 0 0) [] l0 _ _ _ (fun _ => True) (fun _ => False) rfl rfl ?aO ?aR (fun _ _ h => h) (fun _ h => h.elim) ?aF ?aB ?aS ?aL ?_; (case aO => exact ⟨fun _ _ => trivial, [], World.ownsRow_made w #[] 0 (Nat.le_refl _) (by simp [maxLen]) (by rfl), Reps.none _ _⟩); (case aR => exact Kd.C_alloc HR0.out _); (case aF => exact fun _ _ => trivial); (case aB => exact below_alloc HB.out _); (case aS => simp); (case aL => have := HL0.out; simp only [List.length_nil]; omega); intro v1 w1 ho hb hg hat; have HO := Aside0.mk ho; have HB1 := Aside0.mk hb; clear ho hb hg hat))
  go_ret
  exact ⟨_, rfl, by simpa using HO.out, HB1.out⟩

end Go.Proofs.Ytpddppipjlagfaa.Pr

-- Printed by a program of this session (wip/tools/myprint.py) that runs the kit's print with contracts of this session's own.
namespace Go.Proofs.Ytpddppipjlagfaa.Pr
open Go.RowKit Go.Proofs.YtpddppipjlagfaaW.PrintWords Go.Proofs.YtpddppipjlagfaaW.PrintLast Go.Proofs.YtpddppipjlagfaaW.PrintMore
attribute [local go_sem] max2_int min2_int max_two min_two max_three min_three max_four min_four   -- for this text's walks alone
set_option linter.unusedVariables false
set_option linter.unusedSimpArgs false

/-! ### api_Live_60: function 60 (a contract of this session's own) -/
def api_Live_60.f (l0 : List (S59)) (a1 a2 : Int) : Option (List (S59)) := del_live l0 a1 a2
theorem api_Live_60.calls (P0_ : Nat → Prop) (u0_ : Value) (l0 : List (S59)) (a1 a2 : Int) (r : List (S59)) (w0 w : World) (hB : Below w0.heap.size w0 w) (ho0 : Kd.R k59 59 w w0.heap.size P0_ u0_ l0) (h : api_Live_60.f l0 a1 a2 = some r) :
  Calls Try.prog 60 #[u0_, .int .i64 a1, .int .i64 a2] w fun e w' => ∃ v0_ : Value, e = .returned (v0_) ∧ Kd.R k59 59 w' w0.heap.size (fun k_ => (P0_ k_ ∨ w.heap.size ≤ k_)) v0_ r ∧ Below w0.heap.size w0 w' ∧ Kept w w' (fun k_ => P0_ k_) :=
 deleteOwn_live P0_ u0_ l0 a1 a2 r w0 w hB ho0 h

end Go.Proofs.Ytpddppipjlagfaa.Pr
