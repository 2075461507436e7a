/- Several texts in one: BigFunc, BigSearch, LargeClo. -/
import Derived.Test.YtflhbakjlbmfbaaBase
import Derived.Test.YtflhbakjlbmfbaaPlain
import Derived.Shelf.Abstract
import Derived.Deep.RegionHeld3
import Derived.Test.YtflhbakjlbmfbaaSizeOver
import Derived.Test.YtflhbakjlbmfbaaOver
import Derived.Test.YtflhbakjlbmfbaaPrx9
/- IndexFunc, ContainsFunc at api.Big, over any closure. No statement is proved here. -/
namespace Go.Proofs.Ytflhbakjlbmfbaa
set_option linter.unusedVariables false
set_option linter.unusedSimpArgs false
open Go.RowKit Go.Proofs.YtflhbakjlbmfbaaW.PrintWords Go.Proofs.YtflhbakjlbmfbaaW.PrintLast Go.Proofs.YtflhbakjlbmfbaaW.PrintMore Pr

set_option maxHeartbeats 2000000 in
theorem index_big (p : S29 → Bool) (f : Nat) (cs : Array Value) (A0 : Option Addr) (c0 : Nat) (l0 : List S29) (w : World) (eg : ∀ args W, (callFunc f args).run Try.prog W = .ok (.enter f args) W) (hr0 : Kd.C k29 w A0 l0.length l0) (hl : l0.length ≤ 17592186044416)
    (hp : ∀ W, Below w.heap.size w W → ∀ x : S29, Calls Try.prog f (#[.agg #[.int .i64 x.f0, .int .i64 x.f1]] ++ cs) W fun e W' => e = .returned (.bool (p x)) ∧ Below W.heap.size W W') :
    Calls Try.prog 47 #[.slice A0 l0.length c0, .func (.func f) #[] cs] w fun e w' => e = .returned (.int .i64 (idxB p l0 0)) ∧ Below w.heap.size w w' := by
  have hu := Try.underlying29
  have HR := Sh.mk hr0
  have HP := Sh.mk hp
  clear hr0 hp
  go_enter Try.func47, Try.ntmps47
  go_wp2
  go_loopw [8] (fun i wr => ∃ k : Nat, k ≤ l0.length ∧ i = .int .i64 k ∧ Sh (idxB p l0 0 = idxB p (l0.drop k) k) ∧ Sh (Below w.heap.size w wr)) (fun i _ => l0.length - (intOf i).toNat)
  case atStart => exact ⟨0, Nat.zero_le _, rfl, ⟨by simp⟩, ⟨Below.refl _ _⟩⟩
  case round =>
    obtain ⟨k, hk, rfl, HF, HB⟩ := hrel
    by_cases hlt : k < l0.length
    · obtain ⟨ad, rfl, hx0, hx1⟩ := at_T29 (Kd.C_below HR.out HB.out) (k : Int) (by omega) (by omega)
      have hf := idxB_drop p l0 k hlt (rd_T29 l0 (k : Int)) (by simp [rd_T29, List.getD_eq_getElem?_getD, List.getElem?_eq_getElem hlt])
      rw [Int.toNat_natCast] at hx0 hx1
      obtain ⟨x, hx⟩ : ∃ x, x = rd_T29 l0 (k : Int) := ⟨_, rfl⟩
      rw [← hx] at hx0 hx1 hf
      clear hx
      have HC := Sh.mk (HP.out wr HB.out x)
      cases c : p x with
      | true =>
        rw [if_pos c] at hf
        have HV := Sh.mk (HF.out.trans hf)
        have CB := Sh.mk c
        clear hf c
        go_wp2_with (go_at_fn f; (with_reducible refine HC.out.mono ?_); rintro e w2 ⟨rfl, h2⟩; have H2 := Sh.mk h2; clear h2; rw [CB.out])
        go_ret
        exact ⟨by rw [HV.out]; rfl, below_then HB.out HB.out.size H2.out⟩
      | false =>
        rw [c, if_neg (by simp)] at hf
        have HV := Sh.mk (HF.out.trans hf)
        have CB := Sh.mk c
        clear hf c
        go_wp2_with (go_at_fn f; (with_reducible refine HC.out.mono ?_); rintro e w2 ⟨rfl, h2⟩; have H2 := Sh.mk h2; clear h2; rw [CB.out])
        go_roundw
        case rel => exact ⟨k + 1, by omega, by go_num, ⟨HV.out⟩, ⟨below_then HB.out HB.out.size H2.out⟩⟩
        case measure => simp [intOf]; omega
    · obtain rfl : k = l0.length := by omega
      have HV : Sh (idxB p l0 0 = -1) := ⟨by rw [HF.out, List.drop_length]; rfl⟩
      go_wp2
      go_ret
      exact ⟨by rw [HV.out]; rfl, HB.out⟩
set_option maxHeartbeats 1000000 in
theorem contains_big (p : S29 → Bool) (f : Nat) (cs : Array Value) (A0 : Option Addr) (c0 : Nat) (l0 : List S29) (w : World) (eg : ∀ args W, (callFunc f args).run Try.prog W = .ok (.enter f args) W) (hr0 : Kd.C k29 w A0 l0.length l0) (hl : l0.length ≤ 17592186044416)
    (hp : ∀ W, Below w.heap.size w W → ∀ x : S29, Calls Try.prog f (#[.agg #[.int .i64 x.f0, .int .i64 x.f1]] ++ cs) W fun e W' => e = .returned (.bool (p x)) ∧ Below W.heap.size W W') :
    Calls Try.prog 40 #[.slice A0 l0.length c0, .func (.func f) #[] cs] w fun e w' => e = .returned (.bool (l0.any p)) ∧ Below w.heap.size w w' := by
  have HI := Sh.mk (index_big p f cs A0 c0 l0 w eg hr0 hl hp)
  have HA := Sh.mk (idxB_any p l0)
  clear hr0 hp
  go_enter Try.func40, Try.ntmps40
  go_wp2_with fail
  (with_reducible refine HI.out.mono ?_); rintro e w2 ⟨rfl, h2⟩
  have H2 := Sh.mk h2
  clear h2
  go_wp2
  go_ret
  exact ⟨by rw [← HA.out]; rfl, H2.out⟩
end Go.Proofs.Ytflhbakjlbmfbaa

/- BinarySearchFunc at api.Big, over any comparison. No statement is proved here. -/
namespace Go.Proofs.Ytflhbakjlbmfbaa
set_option linter.unusedVariables false
set_option linter.unusedSimpArgs false
open Go.RowKit Go.Proofs.YtflhbakjlbmfbaaW.PrintWords Go.Proofs.YtflhbakjlbmfbaaW.PrintLast Go.Proofs.YtflhbakjlbmfbaaW.PrintMore Pr

set_option maxRecDepth 100000 in
set_option maxHeartbeats 4000000 in
theorem search_big (cf : S29 → Int) (f : Nat) (cs : Array Value) (A0 : Option Addr) (c0 : Nat) (l0 : List S29) (t0 t1 : Int) (w : World) (eg : ∀ args W, (callFunc f args).run Try.prog W = .ok (.enter f args) W) (hr0 : Kd.C k29 w A0 l0.length l0) (hl : l0.length ≤ 17592186044416)
    (hp : ∀ W, Below w.heap.size w W → ∀ x : S29, Calls Try.prog f (#[.agg #[.int .i64 x.f0, .int .i64 x.f1], .agg #[.int .i64 t0, .int .i64 t1]] ++ cs) W fun e W' => e = .returned (.int .i64 (cf x)) ∧ Below W.heap.size W W') :
    Calls Try.prog 43 #[.slice A0 l0.length c0, .agg #[.int .i64 t0, .int .i64 t1], .func (.func f) #[] cs] w fun e w' => e = .returned (.tuple #[.int .i64 (bsI cf l0 0 l0.length : Nat), .bool (bsB cf l0)]) ∧ Below w.heap.size w w' := by
  have hu := Try.underlying29
  have hB1 : Below w.heap.size w (w.alloc (.cells #[.int .i64 t0, .int .i64 t1] 29)) := below_alloc (Below.refl _ _) _
  have hk : Blk (w.alloc (.cells #[.int .i64 t0, .int .i64 t1] 29)) w.heap.size 29 #[.int .i64 t0, .int .i64 t1] := Blk.new _ _ _
  have q0 : (w.alloc (.cells #[.int .i64 t0, .int .i64 t1] 29)).cell? ⟨w.heap.size, 0, none⟩ = some (.int .i64 t0) := (hk.cell 0).trans rfl
  have q1 : (w.alloc (.cells #[.int .i64 t0, .int .i64 t1] 29)).cell? ⟨w.heap.size, 1, none⟩ = some (.int .i64 t1) := (hk.cell 1).trans rfl
  have HQ : Sh ((w.alloc (.cells #[.int .i64 t0, .int .i64 t1] 29)).cell? ⟨w.heap.size, 0, none⟩ = some (.int .i64 t0) ∧ (w.alloc (.cells #[.int .i64 t0, .int .i64 t1] 29)).cell? ⟨w.heap.size, 1, none⟩ = some (.int .i64 t1)) := ⟨q0, q1⟩
  have HR := Sh.mk (Kd.C_below hr0 hB1)
  have HP : Sh (∀ W, Below (w.alloc (.cells #[.int .i64 t0, .int .i64 t1] 29)).heap.size (w.alloc (.cells #[.int .i64 t0, .int .i64 t1] 29)) W → ∀ x : S29, Calls Try.prog f (#[.agg #[.int .i64 x.f0, .int .i64 x.f1], .agg #[.int .i64 t0, .int .i64 t1]] ++ cs) W fun e W' => e = .returned (.int .i64 (cf x)) ∧ Below W.heap.size W W') := ⟨fun W hW x => hp W (below_step hB1 hW) x⟩
  have HB1 := Sh.mk hB1
  clear hr0 hp hk hB1 q0 q1
  go_enter Try.func43, Try.ntmps43
  go_wp2
  go_loopw [9, 10] (fun vi vj wr => ∃ i j : Nat, i ≤ j ∧ j ≤ l0.length ∧ vi = .int .i64 i ∧ vj = .int .i64 j ∧ Sh (bsI cf l0 0 l0.length = bsI cf l0 i j) ∧ Sh (Below (w.alloc (.cells #[.int .i64 t0, .int .i64 t1] 29)).heap.size (w.alloc (.cells #[.int .i64 t0, .int .i64 t1] 29)) wr)) (fun vi vj _ => (intOf vj).toNat - (intOf vi).toNat)
  case atStart => exact ⟨0, l0.length, Nat.zero_le _, Nat.le_refl _, rfl, rfl, ⟨rfl⟩, ⟨Below.refl _ _⟩⟩
  case round =>
    obtain ⟨i, j, hij, hj, rfl, rfl, HF, HB⟩ := hrel
    have p0 := (HB.out.cell (World.block_lt_of_cell? _ _ HQ.out.1)).trans HQ.out.1
    have p1 := (HB.out.cell (World.block_lt_of_cell? _ _ HQ.out.2)).trans HQ.out.2
    by_cases hlt : i < j
    · have q1 : 0 ≤ ((i : Int) + (j : Int)) / 2 := by omega
      have q2 : ((i : Int) + (j : Int)) / 2 < (l0.length : Int) := by omega
      have q3 : (((i : Int) + (j : Int)) / 2).toNat = (i + j) / 2 := by omega
      obtain ⟨ad, rfl, hx0, hx1⟩ := at_T29 (Kd.C_below HR.out HB.out) (((i : Int) + (j : Int)) / 2) q1 q2
      obtain ⟨x, hx⟩ : ∃ x, x = rd_T29 l0 (((i : Int) + (j : Int)) / 2) := ⟨_, rfl⟩
      rw [← hx] at hx0 hx1
      have hxx : l0[(i + j) / 2]? = some x := by
        rw [hx, rd_T29, q3, List.getD_eq_getElem?_getD, List.getElem?_eq_getElem (by omega)]
        rfl
      have hst := bsI_step cf l0 i j hlt x hxx
      clear hx hxx q3
      have HH : Sh (wr.cell? (ad.add ((((i : Int) + (j : Int)) / 2).toNat * 2)) = some (.int .i64 x.f0) ∧ wr.cell? ⟨(ad.add ((((i : Int) + (j : Int)) / 2).toNat * 2)).block, (ad.add ((((i : Int) + (j : Int)) / 2).toNat * 2)).off + 1, none⟩ = some (.int .i64 x.f1) ∧ wr.cell? ⟨w.heap.size, 0, none⟩ = some (.int .i64 t0) ∧ wr.cell? ⟨w.heap.size, 1, none⟩ = some (.int .i64 t1)) := ⟨⟨hx0, hx1, p0, p1⟩⟩
      by_cases c : cf x < 0
      · rw [if_pos c] at hst
        have HV := Sh.mk (HF.out.trans hst)
        have b1 : decide (cf x < 0) = true := decide_eq_true c
        clear hst c
        go_wp2
        go_region_held3 (fun w' => w'.cell? (ad.add ((((i : Int) + (j : Int)) / 2).toNat * 2)) = some (.int .i64 x.f0) ∧ w'.cell? ⟨(ad.add ((((i : Int) + (j : Int)) / 2).toNat * 2)).block, (ad.add ((((i : Int) + (j : Int)) / 2).toNat * 2)).off + 1, none⟩ = some (.int .i64 x.f1) ∧ w'.cell? ⟨w.heap.size, 0, none⟩ = some (.int .i64 t0) ∧ w'.cell? ⟨w.heap.size, 1, none⟩ = some (.int .i64 t1)) (first | exact ⟨(H2.out.cell (World.block_lt_of_cell? _ _ HH.out.1)).trans HH.out.1, (H2.out.cell (World.block_lt_of_cell? _ _ HH.out.2.1)).trans HH.out.2.1, (H2.out.cell (World.block_lt_of_cell? _ _ HH.out.2.2.1)).trans HH.out.2.2.1, (H2.out.cell (World.block_lt_of_cell? _ _ HH.out.2.2.2)).trans HH.out.2.2.2⟩ | exact HH.out) (first | (go_at_fn f; (with_reducible refine (HP.out _ (by first | exact HB.out | exact HB.out.drew) x).mono ?_); rintro e w2 ⟨rfl, h2⟩; have H2 := Sh.mk h2; clear h2))
        go_wp2
        go_roundw
        case rel => exact ⟨(i + j) / 2 + 1, j, by omega, by omega, by go_num, rfl, ⟨HV.out⟩, ⟨below_step HB.out.drew H2.out⟩⟩
        case measure => simp [intOf]; omega
      · rw [if_neg c] at hst
        have HV := Sh.mk (HF.out.trans hst)
        have b1 : decide (cf x < 0) = false := decide_eq_false c
        clear hst c
        go_wp2
        go_region_held3 (fun w' => w'.cell? (ad.add ((((i : Int) + (j : Int)) / 2).toNat * 2)) = some (.int .i64 x.f0) ∧ w'.cell? ⟨(ad.add ((((i : Int) + (j : Int)) / 2).toNat * 2)).block, (ad.add ((((i : Int) + (j : Int)) / 2).toNat * 2)).off + 1, none⟩ = some (.int .i64 x.f1) ∧ w'.cell? ⟨w.heap.size, 0, none⟩ = some (.int .i64 t0) ∧ w'.cell? ⟨w.heap.size, 1, none⟩ = some (.int .i64 t1)) (first | exact ⟨(H2.out.cell (World.block_lt_of_cell? _ _ HH.out.1)).trans HH.out.1, (H2.out.cell (World.block_lt_of_cell? _ _ HH.out.2.1)).trans HH.out.2.1, (H2.out.cell (World.block_lt_of_cell? _ _ HH.out.2.2.1)).trans HH.out.2.2.1, (H2.out.cell (World.block_lt_of_cell? _ _ HH.out.2.2.2)).trans HH.out.2.2.2⟩ | exact HH.out) (first | (go_at_fn f; (with_reducible refine (HP.out _ (by first | exact HB.out | exact HB.out.drew) x).mono ?_); rintro e w2 ⟨rfl, h2⟩; have H2 := Sh.mk h2; clear h2))
        go_wp2
        go_roundw
        case rel => exact ⟨i, (i + j) / 2, by omega, by omega, rfl, by go_num, ⟨HV.out⟩, ⟨below_step HB.out.drew H2.out⟩⟩
        case measure => simp [intOf]; omega
    · obtain rfl : i = j := by omega
      have HV : Sh (bsI cf l0 0 l0.length = i) := ⟨by rw [HF.out, bsI_end]⟩
      by_cases hn : i < l0.length
      · have q1 : (0 : Int) ≤ (i : Int) := by omega
        have q2 : (i : Int) < (l0.length : Int) := by omega
        obtain ⟨ad, rfl, hx0, hx1⟩ := at_T29 (Kd.C_below HR.out HB.out) (i : Int) q1 q2
        obtain ⟨x, hx⟩ : ∃ x, x = rd_T29 l0 (i : Int) := ⟨_, rfl⟩
        rw [← hx] at hx0 hx1
        rw [Int.toNat_natCast] at hx0 hx1
        have HX2 : Sh (bsB cf l0 = decide (cf x = 0)) := ⟨by
          unfold bsB
          rw [HV.out, hx, rd_T29, Int.toNat_natCast, List.getD_eq_getElem?_getD, List.getElem?_eq_getElem hn]
          rfl⟩
        clear hx
        have HH : Sh (wr.cell? (ad.add (i * 2)) = some (.int .i64 x.f0) ∧ wr.cell? ⟨(ad.add (i * 2)).block, (ad.add (i * 2)).off + 1, none⟩ = some (.int .i64 x.f1) ∧ wr.cell? ⟨w.heap.size, 0, none⟩ = some (.int .i64 t0) ∧ wr.cell? ⟨w.heap.size, 1, none⟩ = some (.int .i64 t1)) := ⟨⟨hx0, hx1, p0, p1⟩⟩
        have bn : decide (i < l0.length) = true := decide_eq_true hn
        go_wp2
        go_region_held3 (fun w' => w'.cell? (ad.add (i * 2)) = some (.int .i64 x.f0) ∧ w'.cell? ⟨(ad.add (i * 2)).block, (ad.add (i * 2)).off + 1, none⟩ = some (.int .i64 x.f1) ∧ w'.cell? ⟨w.heap.size, 0, none⟩ = some (.int .i64 t0) ∧ w'.cell? ⟨w.heap.size, 1, none⟩ = some (.int .i64 t1)) (first | exact ⟨(H2.out.cell (World.block_lt_of_cell? _ _ HH.out.1)).trans HH.out.1, (H2.out.cell (World.block_lt_of_cell? _ _ HH.out.2.1)).trans HH.out.2.1, (H2.out.cell (World.block_lt_of_cell? _ _ HH.out.2.2.1)).trans HH.out.2.2.1, (H2.out.cell (World.block_lt_of_cell? _ _ HH.out.2.2.2)).trans HH.out.2.2.2⟩ | exact HH.out) (first | (go_at_fn f; (with_reducible refine (HP.out _ (by first | exact HB.out | exact HB.out.drew) x).mono ?_); rintro e w2 ⟨rfl, h2⟩; have H2 := Sh.mk h2; clear h2))
        go_wp2
        go_ret2
        exact ⟨by rw [HV.out, HX2.out]; rfl, below_step HB1.out (below_step HB.out.drew H2.out)⟩
      · have HX2 : Sh (bsB cf l0 = false) := ⟨by
          unfold bsB
          rw [HV.out, List.getElem?_eq_none (by omega)]⟩
        have bn : decide (i < l0.length) = false := decide_eq_false hn
        go_wp2
        go_quiet (fail)
        go_wp2
        go_ret2
        exact ⟨by rw [HV.out, HX2.out]; rfl, below_step HB1.out (below_step HB.out ((Kp.refl [] _).drewN _).below)⟩
end Go.Proofs.Ytflhbakjlbmfbaa

/- The function values of package large: contracts. No statement is proved here. -/
namespace Go.Proofs.Ytflhbakjlbmfbaa
set_option linter.unusedVariables false
set_option linter.unusedSimpArgs false
open Go.RowKit Go.Proofs.YtflhbakjlbmfbaaW.PrintWords Go.Proofs.YtflhbakjlbmfbaaW.PrintLast Go.Proofs.YtflhbakjlbmfbaaW.PrintMore Pr

/-- Whether a stack has a word in common with another. -/
def bigOver (b x : S29) : Bool := overS x.f0 (sizeRow x.f1).1 b.f0 (sizeRow b.f1).1
/-- A stack's place against another's. -/
def bigOrder (t x : S29) : Int := if x.f1 < t.f1 then -1 else if x.f1 > t.f1 then 1 else if x.f0 < t.f0 then -1 else if x.f0 > t.f0 then 1 else 0
theorem compare_is (a b : Int) : cmp_Compare_int.f a b = some (if a < b then -1 else if a > b then 1 else 0) := by
  simp only [cmp_Compare_int.f, cmp_isNaN_int.f, Option.bind_some]
  simp
  split
  · rfl
  · split <;> rfl
theorem or_is (k : Nat) (a b : Int) : cmp_Or_int.f (k + 3) [a, b] = some (if a = 0 then b else a) := by
  have r0 : rd [a, b] 0 = a := rfl
  have r1 : rd [a, b] 1 = b := rfl
  have w1 : wrap64 (0 + 1) = 1 := by unfold wrap64; omega
  have w2 : wrap64 (1 + 1) = 2 := by unfold wrap64; omega
  have hl : (([a, b] : List Int).length : Int) = 2 := rfl
  rw [cmp_Or_int.f, hl, cmp_Or_int.l0, if_pos (by decide), if_pos (by decide), if_pos (by rw [hl]; decide), r0, w1]
  by_cases c : a = 0
  · rw [if_pos c, if_pos c, cmp_Or_int.l0, if_pos (by decide), if_pos (by decide), if_pos (by rw [hl]; decide), r1, w2]
    by_cases d : b = 0
    · rw [if_pos d, cmp_Or_int.l0, if_neg (by decide), d]
    · rw [if_neg d]
  · rw [if_neg c, if_neg c]
theorem order_is (x0 x1 t0 t1 : Int) : large_order.f 3 x0 x1 t0 t1 = some (bigOrder ⟨t0, t1⟩ ⟨x0, x1⟩) := by
  rw [large_order.f, compare_is, Option.bind_some, compare_is, Option.bind_some, or_is 0, Option.bind_some]
  unfold bigOrder
  simp only [Option.some.injEq]
  by_cases c1 : x1 < t1
  · simp [c1]
  · by_cases c2 : x1 > t1
    · simp [c1, c2]
    · simp [c1, c2]
theorem search_bigOrder (A0 : Option Addr) (c0 : Nat) (l0 : List S29) (t0 t1 : Int) (w : World) (hr0 : Kd.C k29 w A0 l0.length l0) (hl : l0.length ≤ 17592186044416) :
    Calls Try.prog 43 #[.slice A0 l0.length c0, .agg #[.int .i64 t0, .int .i64 t1], .func (.func 44) #[] #[]] w fun e w' => e = .returned (.tuple #[.int .i64 (bsI (bigOrder ⟨t0, t1⟩) l0 0 l0.length : Nat), .bool (bsB (bigOrder ⟨t0, t1⟩) l0)]) ∧ Below w.heap.size w w' :=
  search_big (bigOrder ⟨t0, t1⟩) 44 #[] A0 c0 l0 t0 t1 w (enters_of Try.func44 (by kernel_rfl) rfl) hr0 hl (fun W hW x => large_order.calls 3 x.f0 x.f1 t0 t1 _ W (order_is x.f0 x.f1 t0 t1))
set_option maxHeartbeats 2000000 in
theorem clo_bigTake (x : S29) (n : Int) (bn : Nat) (w : World) (h0 : w.cell? ⟨bn, 0, none⟩ = some (.int .i64 n)) :
    Calls Try.prog 48 (#[.agg #[.int .i64 x.f0, .int .i64 x.f1]] ++ #[.pointer (some ⟨bn, 0, none⟩)]) w fun e w' => e = .returned (.bool (decide (x.f1 = n))) ∧ Below w.heap.size w w' := by
  obtain ⟨x0, x1⟩ := x
  have hbl : bn < w.heap.size := World.block_lt_of_cell? _ _ h0
  have hB1 : Below w.heap.size w (w.alloc (.cells #[.int .i64 x0, .int .i64 x1] 29)) := below_alloc (Below.refl w.heap.size w) _
  have hk : Blk (w.alloc (.cells #[.int .i64 x0, .int .i64 x1] 29)) w.heap.size 29 #[.int .i64 x0, .int .i64 x1] := Blk.new _ _ _
  have c0 : (w.alloc (.cells #[.int .i64 x0, .int .i64 x1] 29)).cell? ⟨bn, 0, none⟩ = some (.int .i64 n) := (hB1.cell hbl).trans h0
  have d0 : (w.alloc (.cells #[.int .i64 x0, .int .i64 x1] 29)).cell? ⟨w.heap.size, 0, none⟩ = some (.int .i64 x0) := (hk.cell 0).trans rfl
  have d1 : (w.alloc (.cells #[.int .i64 x0, .int .i64 x1] 29)).cell? ⟨w.heap.size, 1, none⟩ = some (.int .i64 x1) := (hk.cell 1).trans rfl
  have HB := Sh.mk hB1
  clear hB1 hk h0
  go_enter Try.func48, Try.ntmps48
  go_wp2
  go_ret
  exact ⟨rfl, HB.out⟩
theorem index_bigTake (A0 : Option Addr) (c0 : Nat) (l0 : List S29) (g : Nat) (n : Int) (w : World) (hr0 : Kd.C k29 w A0 l0.length l0) (hl : l0.length ≤ 17592186044416) (hk : w.heap[g]? = some (.cells #[.int .i64 n] 3 (0, 0))) :
    Calls Try.prog 47 #[.slice A0 l0.length c0, .func (.func 48) #[] #[.pointer (some ⟨g, 0, none⟩)]] w fun e w' => e = .returned (.int .i64 (idxB (fun x : S29 => decide (x.f1 = n)) l0 0)) ∧ Below w.heap.size w w' :=
  index_big (fun x => decide (x.f1 = n)) 48 _ A0 c0 l0 w (enters_of Try.func48 (by kernel_rfl) rfl) hr0 hl (fun W hW x => clo_bigTake x n g W ((blk_cell (blk_below hk hW) 0).trans rfl))
set_option maxHeartbeats 2000000 in
theorem clo_bigPut (x : S29) (b0 b1 : Int) (bn : Nat) (w : World) (h0 : w.cell? ⟨bn, 0, none⟩ = some (.int .i64 b0)) (h1 : w.cell? ⟨bn, 1, none⟩ = some (.int .i64 b1)) :
    Calls Try.prog 41 (#[.agg #[.int .i64 x.f0, .int .i64 x.f1]] ++ #[.pointer (some ⟨bn, 0, none⟩)]) w fun e w' => e = .returned (.bool (bigOver ⟨b0, b1⟩ x)) ∧ Below w.heap.size w w' := by
  obtain ⟨x0, x1⟩ := x
  have hbl : bn < w.heap.size := World.block_lt_of_cell? _ _ h0
  have hB1 : Below w.heap.size w (w.alloc (.cells #[.int .i64 x0, .int .i64 x1] 29)) := below_alloc (Below.refl w.heap.size w) _
  have hk : Blk (w.alloc (.cells #[.int .i64 x0, .int .i64 x1] 29)) w.heap.size 29 #[.int .i64 x0, .int .i64 x1] := Blk.new _ _ _
  have c0 : (w.alloc (.cells #[.int .i64 x0, .int .i64 x1] 29)).cell? ⟨bn, 0, none⟩ = some (.int .i64 b0) := (hB1.cell hbl).trans h0
  have d0 : (w.alloc (.cells #[.int .i64 x0, .int .i64 x1] 29)).cell? ⟨w.heap.size, 0, none⟩ = some (.int .i64 x0) := (hk.cell 0).trans rfl
  have c1 : (w.alloc (.cells #[.int .i64 x0, .int .i64 x1] 29)).cell? ⟨bn, 1, none⟩ = some (.int .i64 b1) := (hB1.cell hbl).trans h1
  have d1 : (w.alloc (.cells #[.int .i64 x0, .int .i64 x1] 29)).cell? ⟨w.heap.size, 1, none⟩ = some (.int .i64 x1) := (hk.cell 1).trans rfl
  have HB := Sh.mk hB1
  have HO : Sh (large_over.f x0 x1 b0 b1 = some (bigOver ⟨b0, b1⟩ ⟨x0, x1⟩)) := ⟨rfl⟩
  clear hB1 hk h0 h1
  go_enter Try.func41, Try.ntmps41
  go_wp2_with (first | (go_at_call 42; (with_reducible refine (large_over.calls _ _ _ _ _ _ HO.out).mono ?_); rintro e w2 ⟨rfl, h2⟩; have H2 := Sh.mk h2; clear h2))
  go_ret
  exact ⟨rfl, below_step HB.out H2.out⟩
theorem contains_bigPut (A0 : Option Addr) (c0 : Nat) (l0 : List S29) (g : Nat) (b0 b1 : Int) (w : World) (hr0 : Kd.C k29 w A0 l0.length l0) (hl : l0.length ≤ 17592186044416) (hk : w.heap[g]? = some (.cells #[.int .i64 b0, .int .i64 b1] 29 (0, 0))) :
    Calls Try.prog 40 #[.slice A0 l0.length c0, .func (.func 41) #[] #[.pointer (some ⟨g, 0, none⟩)]] w fun e w' => e = .returned (.bool (l0.any (bigOver ⟨b0, b1⟩))) ∧ Below w.heap.size w w' :=
  contains_big (bigOver ⟨b0, b1⟩) 41 _ A0 c0 l0 w (enters_of Try.func41 (by kernel_rfl) rfl) hr0 hl (fun W hW x => by
    have hk' : W.heap[g]? = some (.cells #[.int .i64 b0, .int .i64 b1] 29 (0, 0)) := blk_below hk hW
    exact clo_bigPut x b0 b1 g W ((blk_cell hk' 0).trans rfl) ((blk_cell hk' 1).trans rfl))
set_option maxHeartbeats 2000000 in
theorem clo_bigRight (x : S29) (b0 b1 : Int) (bn : Nat) (w : World) (h0 : w.cell? ⟨bn, 0, none⟩ = some (.int .i64 b0)) (h1 : w.cell? ⟨bn, 1, none⟩ = some (.int .i64 b1)) :
    Calls Try.prog 61 (#[.agg #[.int .i64 x.f0, .int .i64 x.f1]] ++ #[.pointer (some ⟨bn, 0, none⟩)]) w fun e w' => e = .returned (.bool (bigOver ⟨b0, b1⟩ x)) ∧ Below w.heap.size w w' := by
  obtain ⟨x0, x1⟩ := x
  have hbl : bn < w.heap.size := World.block_lt_of_cell? _ _ h0
  have hB1 : Below w.heap.size w (w.alloc (.cells #[.int .i64 x0, .int .i64 x1] 29)) := below_alloc (Below.refl w.heap.size w) _
  have hk : Blk (w.alloc (.cells #[.int .i64 x0, .int .i64 x1] 29)) w.heap.size 29 #[.int .i64 x0, .int .i64 x1] := Blk.new _ _ _
  have c0 : (w.alloc (.cells #[.int .i64 x0, .int .i64 x1] 29)).cell? ⟨bn, 0, none⟩ = some (.int .i64 b0) := (hB1.cell hbl).trans h0
  have d0 : (w.alloc (.cells #[.int .i64 x0, .int .i64 x1] 29)).cell? ⟨w.heap.size, 0, none⟩ = some (.int .i64 x0) := (hk.cell 0).trans rfl
  have c1 : (w.alloc (.cells #[.int .i64 x0, .int .i64 x1] 29)).cell? ⟨bn, 1, none⟩ = some (.int .i64 b1) := (hB1.cell hbl).trans h1
  have d1 : (w.alloc (.cells #[.int .i64 x0, .int .i64 x1] 29)).cell? ⟨w.heap.size, 1, none⟩ = some (.int .i64 x1) := (hk.cell 1).trans rfl
  have HB := Sh.mk hB1
  have HO : Sh (large_over.f x0 x1 b0 b1 = some (bigOver ⟨b0, b1⟩ ⟨x0, x1⟩)) := ⟨rfl⟩
  clear hB1 hk h0 h1
  go_enter Try.func61, Try.ntmps61
  go_wp2_with (first | (go_at_call 42; (with_reducible refine (large_over.calls _ _ _ _ _ _ HO.out).mono ?_); rintro e w2 ⟨rfl, h2⟩; have H2 := Sh.mk h2; clear h2))
  go_ret
  exact ⟨rfl, below_step HB.out H2.out⟩
theorem contains_bigRight (A0 : Option Addr) (c0 : Nat) (l0 : List S29) (g : Nat) (b0 b1 : Int) (w : World) (hr0 : Kd.C k29 w A0 l0.length l0) (hl : l0.length ≤ 17592186044416) (hk : w.heap[g]? = some (.cells #[.int .i64 b0, .int .i64 b1] 29 (0, 0))) :
    Calls Try.prog 40 #[.slice A0 l0.length c0, .func (.func 61) #[] #[.pointer (some ⟨g, 0, none⟩)]] w fun e w' => e = .returned (.bool (l0.any (bigOver ⟨b0, b1⟩))) ∧ Below w.heap.size w w' :=
  contains_big (bigOver ⟨b0, b1⟩) 61 _ A0 c0 l0 w (enters_of Try.func61 (by kernel_rfl) rfl) hr0 hl (fun W hW x => by
    have hk' : W.heap[g]? = some (.cells #[.int .i64 b0, .int .i64 b1] 29 (0, 0)) := blk_below hk hW
    exact clo_bigRight x b0 b1 g W ((blk_cell hk' 0).trans rfl) ((blk_cell hk' 1).trans rfl))
end Go.Proofs.Ytflhbakjlbmfbaa
