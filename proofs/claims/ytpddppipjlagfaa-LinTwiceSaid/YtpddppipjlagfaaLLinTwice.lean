/- LinTwice: its walk. No row is proved here. -/
import Derived.Test.YtpddppipjlagfaaLinTwiceLaw
import Derived.Test.YtpddppipjlagfaaLinGiven
import Derived.IntWalk
namespace Go.Proofs.Ytpddppipjlagfaa
set_option linter.unusedVariables false
set_option linter.unusedSimpArgs false
open Go.RowKit Go.Proofs.YtpddppipjlagfaaW.PrintWords Go.Proofs.YtpddppipjlagfaaW.PrintLast Go.Proofs.YtpddppipjlagfaaW.PrintMore Pr Go.Proofs.Ytpddppipjlagfaa.Pure

theorem C_dd2 {W : World} {g : Nat} {a b : De} (hb : W.heap[g]? = some (.cells #[.int .i64 a.f0, .int .i64 a.f1, .int .i64 a.f2, .int .i64 a.f3, .int .i64 b.f0, .int .i64 b.f1, .int .i64 b.f2, .int .i64 b.f3] 38 (0, 0))) : Kd.C k38 W (some ⟨g, 0, none⟩) ([a, b] : List De).length [a, b] := by
  refine ⟨rfl, by simp, fun _ => ⟨_, rfl, fun j p hp => ⟨[.int .i64 p.f0, .int .i64 p.f1, .int .i64 p.f2, .int .i64 p.f3], rfl, k38_mk W p, fun i u hu => ?_⟩⟩⟩
  have hj : j < 2 := by have := (List.getElem?_eq_some_iff.1 hp).1; simpa using this
  have hi : i < 4 := by have := (List.getElem?_eq_some_iff.1 hu).1; simpa using this
  rw [add_plain, blk_cell hb]
  match j, hj, hp with
  | 0, _, hp =>
    obtain rfl : a = p := by simpa using hp
    match i, hi, hu with
    | 0, _, hu => exact hu
    | 1, _, hu => exact hu
    | 2, _, hu => exact hu
    | 3, _, hu => exact hu
  | 1, _, hp =>
    obtain rfl : b = p := by simpa using hp
    match i, hi, hu with
    | 0, _, hu => exact hu
    | 1, _, hu => exact hu
    | 2, _, hu => exact hu
    | 3, _, hu => exact hu
theorem C_dd3 {W : World} {g : Nat} {a b c : De} (hb : W.heap[g]? = some (.cells #[.int .i64 a.f0, .int .i64 a.f1, .int .i64 a.f2, .int .i64 a.f3, .int .i64 b.f0, .int .i64 b.f1, .int .i64 b.f2, .int .i64 b.f3, .int .i64 c.f0, .int .i64 c.f1, .int .i64 c.f2, .int .i64 c.f3] 38 (0, 0))) : Kd.C k38 W (some ⟨g, 0, none⟩) ([a, b, c] : List De).length [a, b, c] := by
  refine ⟨rfl, by simp, fun _ => ⟨_, rfl, fun j p hp => ⟨[.int .i64 p.f0, .int .i64 p.f1, .int .i64 p.f2, .int .i64 p.f3], rfl, k38_mk W p, fun i u hu => ?_⟩⟩⟩
  have hj : j < 3 := by have := (List.getElem?_eq_some_iff.1 hp).1; simpa using this
  have hi : i < 4 := by have := (List.getElem?_eq_some_iff.1 hu).1; simpa using this
  rw [add_plain, blk_cell hb]
  match j, hj, hp with
  | 0, _, hp =>
    obtain rfl : a = p := by simpa using hp
    match i, hi, hu with
    | 0, _, hu => exact hu
    | 1, _, hu => exact hu
    | 2, _, hu => exact hu
    | 3, _, hu => exact hu
  | 1, _, hp =>
    obtain rfl : b = p := by simpa using hp
    match i, hi, hu with
    | 0, _, hu => exact hu
    | 1, _, hu => exact hu
    | 2, _, hu => exact hu
    | 3, _, hu => exact hu
  | 2, _, hp =>
    obtain rfl : c = p := by simpa using hp
    match i, hi, hu with
    | 0, _, hu => exact hu
    | 1, _, hu => exact hu
    | 2, _, hu => exact hu
    | 3, _, hu => exact hu
set_option maxRecDepth 100000 in
set_option maxHeartbeats 16000000 in
theorem linTwice_walk (a n : Int) (B : Option Addr) (cb : Nat) (t : List Int) (fr : Bool) (w : World) (ha : (Lit.int .u8 a).wf = true) (hn : (Lit.int .u8 n).wf = true) (ht : Kd.C (Kd.int .u8) w B t.length t) (hct : t.length ≤ cb) (hut : ∀ x ∈ t, (Lit.int .u8 x).wf = true) (hs : t.length * 1 ≤ 140737488351232) :
    Calls Try.prog 7 #[.int .u8 a, .int .u8 n, .slice B t.length cb, .bool fr] w fun e w' => e = .returned (.bool true) ∧ Below w.heap.size w w' := by
  have hu2 := Try.underlying40
  have hu3 := Try.underlying38
  have ua := u8_of ha
  have un := u8_of hn
  clear ha hn
  obtain ⟨N, hN⟩ : ∃ N : Int, N = 1 + n := ⟨_, rfl⟩
  obtain ⟨T, hT⟩ : ∃ T : Int, T = a * 32 := ⟨_, rfl⟩
  have HT := Sh.mk ht
  have HU := Sh.mk hut
  have w1_ : IntKind.i64.wrap n = n := IntWalk.i64_in _ (by omega)
  have w2_ : IntKind.i64.wrap (1 + n) = N := by rw [IntWalk.i64_in _ (by omega)]; exact hN.symm
  have w3_ : IntKind.i64.wrap a = a := IntWalk.i64_in _ (by omega)
  have w4_ : IntKind.i64.wrap (a * 32) = T := by rw [IntWalk.i64_in _ (by omega)]; exact hT.symm
  have HNT : Sh ((1 ≤ N ∧ N ≤ 256) ∧ (0 ≤ T ∧ T ≤ 8160 ∧ T % 32 = 0)) := ⟨by omega⟩
  clear ht hut hN hT ua un
  go_enter Try.func7, Try.ntmps7
  cases fr with
  | false =>
    go_wp2
    obtain ⟨D, hD⟩ : ∃ D, D = [aD N T, aD N T] := ⟨_, rfl⟩
    have HDE := Sh.mk hD
    have HW : Sh (((((w.alloc (.cells #[.int .i64 1, .int .i64 N, .int .i64 T, .int .i64 0] 38)).alloc (.cells #[.int .i64 2, .int .i64 0, .int .i64 T, .int .i64 0] 38))).alloc (.cells #[.int .i64 1, .int .i64 N, .int .i64 T, .int .i64 0, .int .i64 1, .int .i64 N, .int .i64 T, .int .i64 0] 38)).heap[w.heap.size + 1 + 1]? = some (.cells #[.int .i64 1, .int .i64 N, .int .i64 T, .int .i64 0, .int .i64 1, .int .i64 N, .int .i64 T, .int .i64 0] 38 (0, 0))) := ⟨by have := blk_new ((w.alloc (.cells #[.int .i64 1, .int .i64 N, .int .i64 T, .int .i64 0] 38)).alloc (.cells #[.int .i64 2, .int .i64 0, .int .i64 T, .int .i64 0] 38)) (.cells #[.int .i64 1, .int .i64 N, .int .i64 T, .int .i64 0, .int .i64 1, .int .i64 N, .int .i64 T, .int .i64 0] 38); simpa using this⟩
    have HD1 : Sh (Kd.C k38 ((((w.alloc (.cells #[.int .i64 1, .int .i64 N, .int .i64 T, .int .i64 0] 38)).alloc (.cells #[.int .i64 2, .int .i64 0, .int .i64 T, .int .i64 0] 38))).alloc (.cells #[.int .i64 1, .int .i64 N, .int .i64 T, .int .i64 0, .int .i64 1, .int .i64 N, .int .i64 T, .int .i64 0] 38)) (some ⟨w.heap.size + 1 + 1, 0, none⟩) 2 D) := ⟨by rw [hD]; exact C_dd2 (a := aD N T) (b := aD N T) HW.out⟩
    have HB1 : Sh (Below w.heap.size w ((((w.alloc (.cells #[.int .i64 1, .int .i64 N, .int .i64 T, .int .i64 0] 38)).alloc (.cells #[.int .i64 2, .int .i64 0, .int .i64 T, .int .i64 0] 38))).alloc (.cells #[.int .i64 1, .int .i64 N, .int .i64 T, .int .i64 0, .int .i64 1, .int .i64 N, .int .i64 T, .int .i64 0] 38))) := ⟨below_alloc (below_alloc (below_alloc (Below.refl _ _) _) _) _⟩
    have HT1 : Sh (Kd.C (Kd.int .u8) ((((w.alloc (.cells #[.int .i64 1, .int .i64 N, .int .i64 T, .int .i64 0] 38)).alloc (.cells #[.int .i64 2, .int .i64 0, .int .i64 T, .int .i64 0] 38))).alloc (.cells #[.int .i64 1, .int .i64 N, .int .i64 T, .int .i64 0, .int .i64 1, .int .i64 N, .int .i64 T, .int .i64 0] 38)) B t.length t) := ⟨Kd.C_below HT.out HB1.out⟩
    generalize (((w.alloc (.cells #[.int .i64 1, .int .i64 N, .int .i64 T, .int .i64 0] 38)).alloc (.cells #[.int .i64 2, .int .i64 0, .int .i64 T, .int .i64 0] 38))).alloc (.cells #[.int .i64 1, .int .i64 N, .int .i64 T, .int .i64 0, .int .i64 1, .int .i64 N, .int .i64 T, .int .i64 0] 38) = w1 at HW HD1 HB1 HT1 ⊢
    clear HT hD HW
    generalize (⟨w.heap.size + 1 + 1, 0, none⟩ : Addr) = adD at HD1 ⊢
    go_loopw [12, 13, 14] (fun v vi vp wr => ∃ (i : Nat) (z : Int), Sh (i ≤ 2) ∧ vi = .int .i64 z ∧ Sh (z = (i : Int)) ∧ Sh (Kd.R k40 40 wr w1.heap.size (fun _ => True) v (tU t D i)) ∧ Sh (Below w1.heap.size w1 wr)) (fun v vi vp _ => 4 - (intOf vi).toNat)
    case atStart => exact ⟨0, 0, ⟨Nat.zero_le _⟩, rfl, ⟨rfl⟩, ⟨Kd.R_nil _ _ _ _ _⟩, ⟨Below.refl _ _⟩⟩
    case round =>
      obtain ⟨i, z, HI, rfl, HZ, HO, HB⟩ := hrel
      have HI8 : Sh (i ≤ 3) := ⟨by have hi := HI.out; omega⟩
      by_cases c1 : i < 2
      · have hnext : i + 1 ≤ 2 := by omega
        obtain ⟨ad, e1, hx0, hx1, hx2, hx3⟩ := at_T38 (Kd.C_below HD1.out HB.out) z (by have := HZ.out; omega) (by have := HZ.out; show z < 2; omega)
        obtain rfl : adD = ad := Option.some.inj e1
        obtain ⟨v, hv⟩ : ∃ d, d = rd_T38 D z := ⟨_, rfl⟩
        rw [← hv] at hx0 hx1 hx2 hx3
        rw [HZ.out] at hv
        obtain ⟨d0, d1, d2, d3⟩ := v
        dsimp only at hx0 hx1 hx2 hx3
        have HVD := Sh.mk hv
        clear hv
        have s1 : decide (z < 2) = true := decide_eq_true (by have := HZ.out; omega)
        have g0 := eq_true (show (0 : Int) ≤ z by have := HZ.out; omega)
        have g1 := eq_true (show z < 2 by have := HZ.out; omega)
        obtain ⟨p, hp⟩ : ∃ p : Int, p = 2 * z := ⟨_, rfl⟩
        obtain ⟨p1, hp1⟩ : ∃ p1 : Int, p1 = p + 1 := ⟨_, rfl⟩
        have w3_ : IntKind.i64.wrap (2 * z) = p := by rw [IntWalk.i64_in _ (by have := HZ.out; omega)]; exact hp.symm
        have w4_ : IntKind.i64.wrap (p + 1) = p1 := by rw [IntWalk.i64_in _ (by have := HZ.out; omega)]; exact hp1.symm
        have HBE : Sh (p = ((2 * i : Nat) : Int) ∧ p1 = ((2 * i + 1 : Nat) : Int)) := ⟨by have := HZ.out; omega⟩
        have C1 : Sh (i < 2) := ⟨c1⟩
        have HN := Sh.mk hnext
        have w5_ : IntKind.i64.wrap (z + 1) = z + 1 := IntWalk.i64_in _ (by have := HZ.out; have := HI8.out; omega)
        have hi3 := HI8.out
        clear hp hp1 c1 hnext
        by_cases c2 : 2 * i + 1 < t.length
        · have s3 : decide (p1 < (t.length : Int)) = true := decide_eq_true (by have := HBE.out; omega)
          obtain ⟨adt, et, hy0⟩ := Kd.at_int (Kd.C_below HT1.out HB.out) ((2 * i : Nat) : Int) (by omega) (by omega)
          subst et
          clear hy0
          obtain ⟨xb, hxb⟩ : ∃ x, x = rd t ((2 * i : Nat) : Int) := ⟨_, rfl⟩
          obtain ⟨xe, hxe⟩ : ∃ x, x = rd t ((2 * i + 1 : Nat) : Int) := ⟨_, rfl⟩
          have UB : Sh (0 ≤ xb ∧ xb ≤ 255) := ⟨by rw [hxb]; exact rd_u8 HU.out _⟩
          have UE : Sh (0 ≤ xe ∧ xe ≤ 255) := ⟨by rw [hxe]; exact rd_u8 HU.out _⟩
          have HTC : Sh (∀ W, Below w1.heap.size w1 W → W.cell? (adt.add p.toNat) = some (.int .u8 xb) ∧ W.cell? (adt.add p1.toNat) = some (.int .u8 xe)) := ⟨fun W hW => by
            obtain ⟨a1, e1, h1⟩ := Kd.at_int (Kd.C_below HT1.out hW) ((2 * i : Nat) : Int) (by omega) (by omega)
            obtain ⟨a2, e2, h2⟩ := Kd.at_int (Kd.C_below HT1.out hW) ((2 * i + 1 : Nat) : Int) (by omega) (by omega)
            obtain rfl : adt = a1 := Option.some.inj e1
            obtain rfl : adt = a2 := Option.some.inj e2
            rw [← hxb] at h1
            rw [← hxe] at h2
            rw [HBE.out.1, HBE.out.2]
            exact ⟨h1, h2⟩⟩
          have HXB := Sh.mk hxb
          have HXE := Sh.mk hxe
          obtain ⟨en, hen⟩ : ∃ s : Int, s = xb + xe := ⟨_, rfl⟩
          have v1_ : IntKind.i64.wrap xb = xb := IntWalk.i64_in _ (by have := UB.out; omega)
          have v6_ : IntKind.i64.wrap xe = xe := IntWalk.i64_in _ (by have := UE.out; omega)
          have v9_ : IntKind.i64.wrap (xb + xe) = en := by rw [IntWalk.i64_in _ (by have := UE.out; have := UB.out; omega)]; exact hen.symm
          have HEN := Sh.mk hen
          have GW : w1.heap.size ≤ wr.heap.size := HB.out.size
          have HK : Sh ((wr.alloc (.cells #[.int .i64 d0, .int .i64 d1, .int .i64 d2, .int .i64 d3, .int .i64 0, .int .i64 300] 40)).heap[wr.heap.size]? = some (.cells #[.int .i64 d0, .int .i64 d1, .int .i64 d2, .int .i64 d3, .int .i64 0, .int .i64 300] 40 (0, 0))) := ⟨blk_new _ _⟩
          have HB6 : Sh (Below w1.heap.size w1 (wr.alloc (.cells #[.int .i64 d0, .int .i64 d1, .int .i64 d2, .int .i64 d3, .int .i64 0, .int .i64 300] 40))) := ⟨below_alloc HB.out _⟩
          have HO6 : Sh (Kd.R k40 40 (wr.alloc (.cells #[.int .i64 d0, .int .i64 d1, .int .i64 d2, .int .i64 d3, .int .i64 0, .int .i64 300] 40)) w1.heap.size (fun k => k ≠ wr.heap.size) u12 (tU t D i)) := ⟨Kd.R_alloc (Kd.R_mono (Kd.R_elderB HO.out wr.heap.size (Nat.le_refl _)) (fun k hk => hk.2)) _⟩
          have ⟨qt0, qt1⟩ := HTC.out _ HB6.out
          have m1 := eq_true (show (0 : Int) ≤ p by have := HBE.out; omega)
          have m2 := eq_true (show p < (t.length : Int) by have := HBE.out; omega)
          have m3 := eq_true (show (0 : Int) ≤ p1 by have := HBE.out; omega)
          have m4 := eq_true (show p1 < (t.length : Int) by have := HBE.out; omega)
          have qf := blk_frozen HK.out 4
          have q4 : (wr.alloc (.cells #[.int .i64 d0, .int .i64 d1, .int .i64 d2, .int .i64 d3, .int .i64 0, .int .i64 300] 40)).cell? ⟨wr.heap.size, 4, none⟩ = some (.int .i64 0) := (blk_cell HK.out 4).trans rfl
          clear hxb hxe hen
          go_wp2_with fail
          have HK8 : Sh ((wr.alloc (.cells #[.int .i64 d0, .int .i64 d1, .int .i64 d2, .int .i64 d3, .int .i64 xb, .int .i64 300] 40)).heap[wr.heap.size]? = some (.cells #[.int .i64 d0, .int .i64 d1, .int .i64 d2, .int .i64 d3, .int .i64 xb, .int .i64 300] 40 (0, 0))) := ⟨blk_new _ _⟩
          have HB8 : Sh (Below w1.heap.size w1 (wr.alloc (.cells #[.int .i64 d0, .int .i64 d1, .int .i64 d2, .int .i64 d3, .int .i64 xb, .int .i64 300] 40))) := ⟨below_alloc HB.out _⟩
          have HO8 : Sh (Kd.R k40 40 (wr.alloc (.cells #[.int .i64 d0, .int .i64 d1, .int .i64 d2, .int .i64 d3, .int .i64 xb, .int .i64 300] 40)) w1.heap.size (fun k => k ≠ wr.heap.size) u12 (tU t D i)) := ⟨Kd.R_alloc (Kd.R_mono (Kd.R_elderB HO.out wr.heap.size (Nat.le_refl _)) (fun k hk => hk.2)) _⟩
          generalize wr.alloc (.cells #[.int .i64 d0, .int .i64 d1, .int .i64 d2, .int .i64 d3, .int .i64 xb, .int .i64 300] 40) = W8 at HK8 HB8 HO8 ⊢
          clear HK HB6 HO6 q4 qf qt0 qt1
          obtain ⟨g, hg⟩ : ∃ g, g = wr.heap.size := ⟨_, rfl⟩
          rw [← hg] at HK8 HO8 GW ⊢
          clear hg HO HB hx0 hx1 hx2 hx3
          have HK9 := Sh.mk (blk_drew HK8.out)
          have q4 : W8.drew.cell? ⟨g, 4, none⟩ = some (.int .i64 xb) := (blk_cell HK9.out 4).trans rfl
          have q5 : W8.drew.cell? ⟨g, 5, none⟩ = some (.int .i64 300) := (blk_cell HK9.out 5).trans rfl
          have qf5 := blk_frozen HK9.out 5
          have ⟨qt0, qt1⟩ := HTC.out _ (below_drew HB8.out)
          go_region_with (fail)
          all_goals (
            have HK10 : Sh (((W8.setCell ⟨g, 5, none⟩ (.int .i64 en)).drew).heap[g]? = some (.cells #[.int .i64 d0, .int .i64 d1, .int .i64 d2, .int .i64 d3, .int .i64 xb, .int .i64 en] 40 (0, 0))) := ⟨blk_drew (blk_put (cs := #[.int .i64 d0, .int .i64 d1, .int .i64 d2, .int .i64 d3, .int .i64 xb, .int .i64 300]) HK8.out 5 _ rfl)⟩
            have HB10 : Sh (Below w1.heap.size w1 ((W8.setCell ⟨g, 5, none⟩ (.int .i64 en)).drew)) := ⟨below_drew (below_set HB8.out GW)⟩
            have HO10 : Sh (Kd.R k40 40 ((W8.setCell ⟨g, 5, none⟩ (.int .i64 en)).drew) w1.heap.size (fun k => k ≠ g) u12 (tU t D i)) := ⟨Kd.R_drew (Kd.R_far (p := ⟨g, 5, none⟩) HO8.out (fun k hk => hk) _)⟩
            generalize (W8.setCell ⟨g, 5, none⟩ (.int .i64 en)).drew = W9 at HK10 HB10 HO10 ⊢
            clear HK8 HB8 HO8 HK9 q4 q5 qf5 qt0 qt1
            have HV : Sh (tU t D (i + 1) = tU t D i ++ [(⟨⟨d0, d1, d2, d3⟩, xb, en⟩ : Oq)]) := ⟨by rw [tU, ← HVD.out, HEN.out, HXB.out, HXE.out]; unfold tOp; rw [if_pos c2]⟩
            have HBZ : Sh (Below w1.heap.size w1 W9) := HB10
            have HOZ : Sh (Kd.R k40 40 W9 w1.heap.size (fun _ => True) u12 (tU t D i)) := ⟨Kd.R_mono HO10.out (fun _ _ => trivial)⟩
            have e0 : W9.cell? ⟨g, 0, none⟩ = some (.int .i64 d0) := (blk_cell HK10.out 0).trans rfl
            have e1 : W9.cell? ⟨g, 1, none⟩ = some (.int .i64 d1) := (blk_cell HK10.out 1).trans rfl
            have e2 : W9.cell? ⟨g, 2, none⟩ = some (.int .i64 d2) := (blk_cell HK10.out 2).trans rfl
            have e3 : W9.cell? ⟨g, 3, none⟩ = some (.int .i64 d3) := (blk_cell HK10.out 3).trans rfl
            have e4 : W9.cell? ⟨g, 4, none⟩ = some (.int .i64 xb) := (blk_cell HK10.out 4).trans rfl
            have e5 : W9.cell? ⟨g, 5, none⟩ = some (.int .i64 en) := (blk_cell HK10.out 5).trans rfl
            go_wp2_with ((with_reducible refine gate_builtin (b := .append) (xs := #[.tmp 72, .tmp 74]) rfl ?_); at_builtin; refine Kd.R_append k40 (w0 := w1) w1.heap.size rfl (.tmp 72) (.tmp 74) 23 40 (.agg #[(.int .i64 0), (.int .i64 0), (.int .i64 0), (.int .i64 0), (.int .i64 0), (.int .i64 0)]) 48 rfl Try.underlying23 info40 rfl (by decide) (by omega) u12 (tU t D i) (⟨⟨d0, d1, d2, d3⟩, xb, en⟩ : Oq) [.int .i64 d0, .int .i64 d1, .int .i64 d2, .int .i64 d3, .int .i64 xb, .int .i64 en] (fun _ => True) (fun _ => False) rfl (by first | (go_simp; done) | (go_simp; rfl)) ?aP (fun _ hk => hk.elim) ?aF ?aO ?aB ?aS ?aL ?_; (case aP => exact k40_mkM _ _ _ (⟨⟨d0, d1, d2, d3⟩, xb, en⟩ : Oq)); (case aB => exact HBZ.out); (case aF => exact fun _ _ => trivial); (case aO => exact HOZ.out); (case aS => exact HBZ.out.size); (case aL => rw [tU_len]; omega); intro v1 w9 ho hb hg hat; have HO9 := Sh.mk ho; have HB9 := Sh.mk hb; clear ho hb hg hat)
            go_roundw
            case rel => exact ⟨i + 1, z + 1, HN, rfl, ⟨by have := HZ.out; omega⟩, ⟨by rw [HV.out]; exact HO9.out⟩, HB9⟩
            case measure => have := HZ.out; have := C1.out; simp [intOf]; omega)
        · have s3 : decide (p1 < (t.length : Int)) = false := decide_eq_false (by have := HBE.out; omega)
          have HV : Sh (tU t D (i + 1) = tU t D i ++ [(⟨⟨d0, d1, d2, d3⟩, 0, 300⟩ : Oq)]) := ⟨by rw [tU, ← HVD.out]; unfold tOp; rw [if_neg c2]⟩
          have HOZ : Sh (Kd.R k40 40 (wr.alloc (.cells #[.int .i64 d0, .int .i64 d1, .int .i64 d2, .int .i64 d3, .int .i64 0, .int .i64 300] 40)) w1.heap.size (fun _ => True) u12 (tU t D i)) := ⟨Kd.R_alloc HO.out _⟩
          have HBZ : Sh (Below w1.heap.size w1 (wr.alloc (.cells #[.int .i64 d0, .int .i64 d1, .int .i64 d2, .int .i64 d3, .int .i64 0, .int .i64 300] 40))) := ⟨below_alloc HB.out _⟩
          go_wp2_with ((with_reducible refine gate_builtin (b := .append) (xs := #[.tmp 72, .tmp 74]) rfl ?_); at_builtin; refine Kd.R_append k40 (w0 := w1) w1.heap.size rfl (.tmp 72) (.tmp 74) 23 40 (.agg #[(.int .i64 0), (.int .i64 0), (.int .i64 0), (.int .i64 0), (.int .i64 0), (.int .i64 0)]) 48 rfl Try.underlying23 info40 rfl (by decide) (by omega) u12 (tU t D i) (⟨⟨d0, d1, d2, d3⟩, 0, 300⟩ : Oq) [.int .i64 d0, .int .i64 d1, .int .i64 d2, .int .i64 d3, .int .i64 0, .int .i64 300] (fun _ => True) (fun _ => False) rfl (by first | (go_simp; done) | (go_simp; rfl)) ?aP (fun _ hk => hk.elim) ?aF ?aO ?aB ?aS ?aL ?_; (case aP => exact k40_mkM _ _ _ (⟨⟨d0, d1, d2, d3⟩, 0, 300⟩ : Oq)); (case aB => exact HBZ.out); (case aF => exact fun _ _ => trivial); (case aO => exact HOZ.out); (case aS => exact HBZ.out.size); (case aL => rw [tU_len]; omega); intro v1 w9 ho hb hg hat; have HO9 := Sh.mk ho; have HB9 := Sh.mk hb; clear ho hb hg hat)
          go_roundw
          case rel => exact ⟨i + 1, z + 1, HN, rfl, ⟨by have := HZ.out; omega⟩, ⟨by rw [HV.out]; exact HO9.out⟩, HB9⟩
          case measure => have := HZ.out; have := C1.out; simp [intOf]; omega
      · have hi : i = 2 := by have := HI.out; omega
        subst hi
        have s1 : decide (z < 2) = false := decide_eq_false (by have := HZ.out; omega)
        have HBE := Sh.mk (below_then HB1.out HB1.out.size HB.out)
        have hx := tOp_ok HU.out (aD N T) 0
        have hy := tOp_ok HU.out (aD N T) 1
        have HL : tU t D 2 = [tOp t (aD N T) 0, tOp t (aD N T) 1] := by rw [HDE.out]; rfl
        rw [HL] at HO
        generalize tOp t (aD N T) 0 = x at hx HO
        generalize tOp t (aD N T) 1 = y at hy HO
        obtain ⟨R, hR, hRl⟩ := ord_a HNT.out.1 HNT.out.2 (x := x) hx
        have hN := ord_aa HNT.out.1 HNT.out.2 hx hy
        obtain ⟨Ax, cx, ex⟩ := Kd.R_slice HO.out
        subst ex
        have HC := Sh.mk (Kd.R_reads' HO.out)
        have HN := Sh.mk hN
        have HRR := Sh.mk hR
        have HRL := Sh.mk hRl
        have HX := Sh.mk (And.intro hx hy)
        have HO1 : Sh (Calls Try.prog 13 #[.int .i64 16384, .slice Ax 2 cx] wr (OrdPost 16384 [x, y] wr)) := ⟨order_any 16384 Ax cx [x, y] wr (by decide) HC.out.2.2 HC.out.2.1 (by simp)⟩
        clear hx hy hN hR hRl HL
        go_wp2_with fail
        (with_reducible refine HO1.out.mono ?_); rintro e w5 ⟨r, hr, v5, rfl, hv5, hb5⟩
        obtain rfl : none = r := by rw [← HN.out]; exact ordF_is hr
        have hv5 : Kd.R (Kd.int .i64) 3 w5 wr.heap.size (fun _ => True) v5 ([] : List Int) := hv5
        obtain ⟨A5, c5, e5⟩ := Kd.R_slice hv5
        subst e5
        have HB5 := Sh.mk (below_then HBE.out HBE.out.size hb5)
        have HC5 := Sh.mk (Kd.C_below HC.out.2.2 hb5)
        clear hr hv5 hb5 HO1
        obtain ⟨i28, hi28, hi2, hi3, hi4⟩ := info_parts info40
        have cut1 : ∀ W : World, (Instr.slice 23 (.slice Ax 2 cx) none (some (.int .i64 1)) none).run Try.prog W = .ok (.slice Ax 1 cx) W := by
          have := cut_to (P := Try.prog) 23 40 .i64 Try.underlying23 hi28 Ax [x, y].length cx 1 (by omega) (by simp) HC.out.2.1
          simpa using this
        have HO2 : Sh (Calls Try.prog 13 #[.int .i64 16384, .slice Ax 1 cx] w5 (OrdPost 16384 [x] w5)) := ⟨order_any 16384 Ax cx [x] w5 (by decide) (Kd.C_take HC5.out (m := 1) (by simp)) (by have := HC.out.2.1; simp at this ⊢; omega) (by simp)⟩
        clear hi28 hi2 hi3 hi4
        go_wp2_with fail
        (with_reducible refine HO2.out.mono ?_); rintro e w6 ⟨r, hr, v6, rfl, hv6, hb6⟩
        obtain rfl : some R = r := by rw [← HRR.out]; exact ordF_is hr
        have hv6 : Kd.R (Kd.int .i64) 3 w6 w5.heap.size (fun _ => True) v6 (upI R) := hv6
        have hq : (upI R).length = 1 := by rw [upI_len]; exact HRL.out
        generalize upI R = q at hv6 hq
        obtain ⟨A6, c6, e6⟩ := Kd.R_slice hv6
        subst e6
        have HB6 := Sh.mk (below_then HB5.out HB5.out.size hb6)
        clear hr hv6 hb6 HO2 cut1
        go_wp2_with fail
        go_quiet (fail)
        go_wp2_with fail
        (with_reducible refine (lawake_any _).mono ?_); rintro e w7 ⟨rfl, b⟩
        have HB7 := Sh.mk (below_then (pw_below_drewN HB6.out _) (pw_below_drewN HB6.out _).size b)
        clear b
        go_wp2
        go_ret
        exact ⟨rfl, HB7.out⟩
  | true =>
    go_wp2
    obtain ⟨D, hD⟩ : ∃ D, D = [aD N T, fD T, fD T] := ⟨_, rfl⟩
    have HDE := Sh.mk hD
    have HW : Sh ((((((w.alloc (.cells #[.int .i64 1, .int .i64 N, .int .i64 T, .int .i64 0] 38)).alloc (.cells #[.int .i64 2, .int .i64 0, .int .i64 T, .int .i64 0] 38))).alloc (.cells #[.int .i64 1, .int .i64 N, .int .i64 T, .int .i64 0, .int .i64 1, .int .i64 N, .int .i64 T, .int .i64 0] 38)).alloc (.cells #[.int .i64 1, .int .i64 N, .int .i64 T, .int .i64 0, .int .i64 2, .int .i64 0, .int .i64 T, .int .i64 0, .int .i64 2, .int .i64 0, .int .i64 T, .int .i64 0] 38)).heap[w.heap.size + 1 + 1 + 1]? = some (.cells #[.int .i64 1, .int .i64 N, .int .i64 T, .int .i64 0, .int .i64 2, .int .i64 0, .int .i64 T, .int .i64 0, .int .i64 2, .int .i64 0, .int .i64 T, .int .i64 0] 38 (0, 0))) := ⟨by have := blk_new ((((w.alloc (.cells #[.int .i64 1, .int .i64 N, .int .i64 T, .int .i64 0] 38)).alloc (.cells #[.int .i64 2, .int .i64 0, .int .i64 T, .int .i64 0] 38))).alloc (.cells #[.int .i64 1, .int .i64 N, .int .i64 T, .int .i64 0, .int .i64 1, .int .i64 N, .int .i64 T, .int .i64 0] 38)) (.cells #[.int .i64 1, .int .i64 N, .int .i64 T, .int .i64 0, .int .i64 2, .int .i64 0, .int .i64 T, .int .i64 0, .int .i64 2, .int .i64 0, .int .i64 T, .int .i64 0] 38); simpa using this⟩
    have HD1 : Sh (Kd.C k38 (((((w.alloc (.cells #[.int .i64 1, .int .i64 N, .int .i64 T, .int .i64 0] 38)).alloc (.cells #[.int .i64 2, .int .i64 0, .int .i64 T, .int .i64 0] 38))).alloc (.cells #[.int .i64 1, .int .i64 N, .int .i64 T, .int .i64 0, .int .i64 1, .int .i64 N, .int .i64 T, .int .i64 0] 38)).alloc (.cells #[.int .i64 1, .int .i64 N, .int .i64 T, .int .i64 0, .int .i64 2, .int .i64 0, .int .i64 T, .int .i64 0, .int .i64 2, .int .i64 0, .int .i64 T, .int .i64 0] 38)) (some ⟨w.heap.size + 1 + 1 + 1, 0, none⟩) 3 D) := ⟨by rw [hD]; exact C_dd3 (a := aD N T) (b := fD T) (c := fD T) HW.out⟩
    have HB1 : Sh (Below w.heap.size w (((((w.alloc (.cells #[.int .i64 1, .int .i64 N, .int .i64 T, .int .i64 0] 38)).alloc (.cells #[.int .i64 2, .int .i64 0, .int .i64 T, .int .i64 0] 38))).alloc (.cells #[.int .i64 1, .int .i64 N, .int .i64 T, .int .i64 0, .int .i64 1, .int .i64 N, .int .i64 T, .int .i64 0] 38)).alloc (.cells #[.int .i64 1, .int .i64 N, .int .i64 T, .int .i64 0, .int .i64 2, .int .i64 0, .int .i64 T, .int .i64 0, .int .i64 2, .int .i64 0, .int .i64 T, .int .i64 0] 38))) := ⟨below_alloc (below_alloc (below_alloc (below_alloc (Below.refl _ _) _) _) _) _⟩
    have HT1 : Sh (Kd.C (Kd.int .u8) (((((w.alloc (.cells #[.int .i64 1, .int .i64 N, .int .i64 T, .int .i64 0] 38)).alloc (.cells #[.int .i64 2, .int .i64 0, .int .i64 T, .int .i64 0] 38))).alloc (.cells #[.int .i64 1, .int .i64 N, .int .i64 T, .int .i64 0, .int .i64 1, .int .i64 N, .int .i64 T, .int .i64 0] 38)).alloc (.cells #[.int .i64 1, .int .i64 N, .int .i64 T, .int .i64 0, .int .i64 2, .int .i64 0, .int .i64 T, .int .i64 0, .int .i64 2, .int .i64 0, .int .i64 T, .int .i64 0] 38)) B t.length t) := ⟨Kd.C_below HT.out HB1.out⟩
    generalize ((((w.alloc (.cells #[.int .i64 1, .int .i64 N, .int .i64 T, .int .i64 0] 38)).alloc (.cells #[.int .i64 2, .int .i64 0, .int .i64 T, .int .i64 0] 38))).alloc (.cells #[.int .i64 1, .int .i64 N, .int .i64 T, .int .i64 0, .int .i64 1, .int .i64 N, .int .i64 T, .int .i64 0] 38)).alloc (.cells #[.int .i64 1, .int .i64 N, .int .i64 T, .int .i64 0, .int .i64 2, .int .i64 0, .int .i64 T, .int .i64 0, .int .i64 2, .int .i64 0, .int .i64 T, .int .i64 0] 38) = w1 at HW HD1 HB1 HT1 ⊢
    clear HT hD HW
    generalize (⟨w.heap.size + 1 + 1 + 1, 0, none⟩ : Addr) = adD at HD1 ⊢
    go_loopw [12, 13, 14] (fun v vi vp wr => ∃ (i : Nat) (z : Int), Sh (i ≤ 3) ∧ vi = .int .i64 z ∧ Sh (z = (i : Int)) ∧ Sh (Kd.R k40 40 wr w1.heap.size (fun _ => True) v (tU t D i)) ∧ Sh (Below w1.heap.size w1 wr)) (fun v vi vp _ => 4 - (intOf vi).toNat)
    case atStart => exact ⟨0, 0, ⟨Nat.zero_le _⟩, rfl, ⟨rfl⟩, ⟨Kd.R_nil _ _ _ _ _⟩, ⟨Below.refl _ _⟩⟩
    case round =>
      obtain ⟨i, z, HI, rfl, HZ, HO, HB⟩ := hrel
      have HI8 : Sh (i ≤ 3) := ⟨by have hi := HI.out; omega⟩
      by_cases c1 : i < 3
      · have hnext : i + 1 ≤ 3 := by omega
        obtain ⟨ad, e1, hx0, hx1, hx2, hx3⟩ := at_T38 (Kd.C_below HD1.out HB.out) z (by have := HZ.out; omega) (by have := HZ.out; show z < 3; omega)
        obtain rfl : adD = ad := Option.some.inj e1
        obtain ⟨v, hv⟩ : ∃ d, d = rd_T38 D z := ⟨_, rfl⟩
        rw [← hv] at hx0 hx1 hx2 hx3
        rw [HZ.out] at hv
        obtain ⟨d0, d1, d2, d3⟩ := v
        dsimp only at hx0 hx1 hx2 hx3
        have HVD := Sh.mk hv
        clear hv
        have s1 : decide (z < 3) = true := decide_eq_true (by have := HZ.out; omega)
        have g0 := eq_true (show (0 : Int) ≤ z by have := HZ.out; omega)
        have g1 := eq_true (show z < 3 by have := HZ.out; omega)
        obtain ⟨p, hp⟩ : ∃ p : Int, p = 2 * z := ⟨_, rfl⟩
        obtain ⟨p1, hp1⟩ : ∃ p1 : Int, p1 = p + 1 := ⟨_, rfl⟩
        have w3_ : IntKind.i64.wrap (2 * z) = p := by rw [IntWalk.i64_in _ (by have := HZ.out; omega)]; exact hp.symm
        have w4_ : IntKind.i64.wrap (p + 1) = p1 := by rw [IntWalk.i64_in _ (by have := HZ.out; omega)]; exact hp1.symm
        have HBE : Sh (p = ((2 * i : Nat) : Int) ∧ p1 = ((2 * i + 1 : Nat) : Int)) := ⟨by have := HZ.out; omega⟩
        have C1 : Sh (i < 3) := ⟨c1⟩
        have HN := Sh.mk hnext
        have w5_ : IntKind.i64.wrap (z + 1) = z + 1 := IntWalk.i64_in _ (by have := HZ.out; have := HI8.out; omega)
        have hi3 := HI8.out
        clear hp hp1 c1 hnext
        by_cases c2 : 2 * i + 1 < t.length
        · have s3 : decide (p1 < (t.length : Int)) = true := decide_eq_true (by have := HBE.out; omega)
          obtain ⟨adt, et, hy0⟩ := Kd.at_int (Kd.C_below HT1.out HB.out) ((2 * i : Nat) : Int) (by omega) (by omega)
          subst et
          clear hy0
          obtain ⟨xb, hxb⟩ : ∃ x, x = rd t ((2 * i : Nat) : Int) := ⟨_, rfl⟩
          obtain ⟨xe, hxe⟩ : ∃ x, x = rd t ((2 * i + 1 : Nat) : Int) := ⟨_, rfl⟩
          have UB : Sh (0 ≤ xb ∧ xb ≤ 255) := ⟨by rw [hxb]; exact rd_u8 HU.out _⟩
          have UE : Sh (0 ≤ xe ∧ xe ≤ 255) := ⟨by rw [hxe]; exact rd_u8 HU.out _⟩
          have HTC : Sh (∀ W, Below w1.heap.size w1 W → W.cell? (adt.add p.toNat) = some (.int .u8 xb) ∧ W.cell? (adt.add p1.toNat) = some (.int .u8 xe)) := ⟨fun W hW => by
            obtain ⟨a1, e1, h1⟩ := Kd.at_int (Kd.C_below HT1.out hW) ((2 * i : Nat) : Int) (by omega) (by omega)
            obtain ⟨a2, e2, h2⟩ := Kd.at_int (Kd.C_below HT1.out hW) ((2 * i + 1 : Nat) : Int) (by omega) (by omega)
            obtain rfl : adt = a1 := Option.some.inj e1
            obtain rfl : adt = a2 := Option.some.inj e2
            rw [← hxb] at h1
            rw [← hxe] at h2
            rw [HBE.out.1, HBE.out.2]
            exact ⟨h1, h2⟩⟩
          have HXB := Sh.mk hxb
          have HXE := Sh.mk hxe
          obtain ⟨en, hen⟩ : ∃ s : Int, s = xb + xe := ⟨_, rfl⟩
          have v1_ : IntKind.i64.wrap xb = xb := IntWalk.i64_in _ (by have := UB.out; omega)
          have v6_ : IntKind.i64.wrap xe = xe := IntWalk.i64_in _ (by have := UE.out; omega)
          have v9_ : IntKind.i64.wrap (xb + xe) = en := by rw [IntWalk.i64_in _ (by have := UE.out; have := UB.out; omega)]; exact hen.symm
          have HEN := Sh.mk hen
          have GW : w1.heap.size ≤ wr.heap.size := HB.out.size
          have HK : Sh ((wr.alloc (.cells #[.int .i64 d0, .int .i64 d1, .int .i64 d2, .int .i64 d3, .int .i64 0, .int .i64 300] 40)).heap[wr.heap.size]? = some (.cells #[.int .i64 d0, .int .i64 d1, .int .i64 d2, .int .i64 d3, .int .i64 0, .int .i64 300] 40 (0, 0))) := ⟨blk_new _ _⟩
          have HB6 : Sh (Below w1.heap.size w1 (wr.alloc (.cells #[.int .i64 d0, .int .i64 d1, .int .i64 d2, .int .i64 d3, .int .i64 0, .int .i64 300] 40))) := ⟨below_alloc HB.out _⟩
          have HO6 : Sh (Kd.R k40 40 (wr.alloc (.cells #[.int .i64 d0, .int .i64 d1, .int .i64 d2, .int .i64 d3, .int .i64 0, .int .i64 300] 40)) w1.heap.size (fun k => k ≠ wr.heap.size) u12 (tU t D i)) := ⟨Kd.R_alloc (Kd.R_mono (Kd.R_elderB HO.out wr.heap.size (Nat.le_refl _)) (fun k hk => hk.2)) _⟩
          have ⟨qt0, qt1⟩ := HTC.out _ HB6.out
          have m1 := eq_true (show (0 : Int) ≤ p by have := HBE.out; omega)
          have m2 := eq_true (show p < (t.length : Int) by have := HBE.out; omega)
          have m3 := eq_true (show (0 : Int) ≤ p1 by have := HBE.out; omega)
          have m4 := eq_true (show p1 < (t.length : Int) by have := HBE.out; omega)
          have qf := blk_frozen HK.out 4
          have q4 : (wr.alloc (.cells #[.int .i64 d0, .int .i64 d1, .int .i64 d2, .int .i64 d3, .int .i64 0, .int .i64 300] 40)).cell? ⟨wr.heap.size, 4, none⟩ = some (.int .i64 0) := (blk_cell HK.out 4).trans rfl
          clear hxb hxe hen
          go_wp2_with fail
          have HK8 : Sh ((wr.alloc (.cells #[.int .i64 d0, .int .i64 d1, .int .i64 d2, .int .i64 d3, .int .i64 xb, .int .i64 300] 40)).heap[wr.heap.size]? = some (.cells #[.int .i64 d0, .int .i64 d1, .int .i64 d2, .int .i64 d3, .int .i64 xb, .int .i64 300] 40 (0, 0))) := ⟨blk_new _ _⟩
          have HB8 : Sh (Below w1.heap.size w1 (wr.alloc (.cells #[.int .i64 d0, .int .i64 d1, .int .i64 d2, .int .i64 d3, .int .i64 xb, .int .i64 300] 40))) := ⟨below_alloc HB.out _⟩
          have HO8 : Sh (Kd.R k40 40 (wr.alloc (.cells #[.int .i64 d0, .int .i64 d1, .int .i64 d2, .int .i64 d3, .int .i64 xb, .int .i64 300] 40)) w1.heap.size (fun k => k ≠ wr.heap.size) u12 (tU t D i)) := ⟨Kd.R_alloc (Kd.R_mono (Kd.R_elderB HO.out wr.heap.size (Nat.le_refl _)) (fun k hk => hk.2)) _⟩
          generalize wr.alloc (.cells #[.int .i64 d0, .int .i64 d1, .int .i64 d2, .int .i64 d3, .int .i64 xb, .int .i64 300] 40) = W8 at HK8 HB8 HO8 ⊢
          clear HK HB6 HO6 q4 qf qt0 qt1
          obtain ⟨g, hg⟩ : ∃ g, g = wr.heap.size := ⟨_, rfl⟩
          rw [← hg] at HK8 HO8 GW ⊢
          clear hg HO HB hx0 hx1 hx2 hx3
          have HK9 := Sh.mk (blk_drew HK8.out)
          have q4 : W8.drew.cell? ⟨g, 4, none⟩ = some (.int .i64 xb) := (blk_cell HK9.out 4).trans rfl
          have q5 : W8.drew.cell? ⟨g, 5, none⟩ = some (.int .i64 300) := (blk_cell HK9.out 5).trans rfl
          have qf5 := blk_frozen HK9.out 5
          have ⟨qt0, qt1⟩ := HTC.out _ (below_drew HB8.out)
          go_region_with (fail)
          all_goals (
            have HK10 : Sh (((W8.setCell ⟨g, 5, none⟩ (.int .i64 en)).drew).heap[g]? = some (.cells #[.int .i64 d0, .int .i64 d1, .int .i64 d2, .int .i64 d3, .int .i64 xb, .int .i64 en] 40 (0, 0))) := ⟨blk_drew (blk_put (cs := #[.int .i64 d0, .int .i64 d1, .int .i64 d2, .int .i64 d3, .int .i64 xb, .int .i64 300]) HK8.out 5 _ rfl)⟩
            have HB10 : Sh (Below w1.heap.size w1 ((W8.setCell ⟨g, 5, none⟩ (.int .i64 en)).drew)) := ⟨below_drew (below_set HB8.out GW)⟩
            have HO10 : Sh (Kd.R k40 40 ((W8.setCell ⟨g, 5, none⟩ (.int .i64 en)).drew) w1.heap.size (fun k => k ≠ g) u12 (tU t D i)) := ⟨Kd.R_drew (Kd.R_far (p := ⟨g, 5, none⟩) HO8.out (fun k hk => hk) _)⟩
            generalize (W8.setCell ⟨g, 5, none⟩ (.int .i64 en)).drew = W9 at HK10 HB10 HO10 ⊢
            clear HK8 HB8 HO8 HK9 q4 q5 qf5 qt0 qt1
            have HV : Sh (tU t D (i + 1) = tU t D i ++ [(⟨⟨d0, d1, d2, d3⟩, xb, en⟩ : Oq)]) := ⟨by rw [tU, ← HVD.out, HEN.out, HXB.out, HXE.out]; unfold tOp; rw [if_pos c2]⟩
            have HBZ : Sh (Below w1.heap.size w1 W9) := HB10
            have HOZ : Sh (Kd.R k40 40 W9 w1.heap.size (fun _ => True) u12 (tU t D i)) := ⟨Kd.R_mono HO10.out (fun _ _ => trivial)⟩
            have e0 : W9.cell? ⟨g, 0, none⟩ = some (.int .i64 d0) := (blk_cell HK10.out 0).trans rfl
            have e1 : W9.cell? ⟨g, 1, none⟩ = some (.int .i64 d1) := (blk_cell HK10.out 1).trans rfl
            have e2 : W9.cell? ⟨g, 2, none⟩ = some (.int .i64 d2) := (blk_cell HK10.out 2).trans rfl
            have e3 : W9.cell? ⟨g, 3, none⟩ = some (.int .i64 d3) := (blk_cell HK10.out 3).trans rfl
            have e4 : W9.cell? ⟨g, 4, none⟩ = some (.int .i64 xb) := (blk_cell HK10.out 4).trans rfl
            have e5 : W9.cell? ⟨g, 5, none⟩ = some (.int .i64 en) := (blk_cell HK10.out 5).trans rfl
            go_wp2_with ((with_reducible refine gate_builtin (b := .append) (xs := #[.tmp 72, .tmp 74]) rfl ?_); at_builtin; refine Kd.R_append k40 (w0 := w1) w1.heap.size rfl (.tmp 72) (.tmp 74) 23 40 (.agg #[(.int .i64 0), (.int .i64 0), (.int .i64 0), (.int .i64 0), (.int .i64 0), (.int .i64 0)]) 48 rfl Try.underlying23 info40 rfl (by decide) (by omega) u12 (tU t D i) (⟨⟨d0, d1, d2, d3⟩, xb, en⟩ : Oq) [.int .i64 d0, .int .i64 d1, .int .i64 d2, .int .i64 d3, .int .i64 xb, .int .i64 en] (fun _ => True) (fun _ => False) rfl (by first | (go_simp; done) | (go_simp; rfl)) ?aP (fun _ hk => hk.elim) ?aF ?aO ?aB ?aS ?aL ?_; (case aP => exact k40_mkM _ _ _ (⟨⟨d0, d1, d2, d3⟩, xb, en⟩ : Oq)); (case aB => exact HBZ.out); (case aF => exact fun _ _ => trivial); (case aO => exact HOZ.out); (case aS => exact HBZ.out.size); (case aL => rw [tU_len]; omega); intro v1 w9 ho hb hg hat; have HO9 := Sh.mk ho; have HB9 := Sh.mk hb; clear ho hb hg hat)
            go_roundw
            case rel => exact ⟨i + 1, z + 1, HN, rfl, ⟨by have := HZ.out; omega⟩, ⟨by rw [HV.out]; exact HO9.out⟩, HB9⟩
            case measure => have := HZ.out; have := C1.out; simp [intOf]; omega)
        · have s3 : decide (p1 < (t.length : Int)) = false := decide_eq_false (by have := HBE.out; omega)
          have HV : Sh (tU t D (i + 1) = tU t D i ++ [(⟨⟨d0, d1, d2, d3⟩, 0, 300⟩ : Oq)]) := ⟨by rw [tU, ← HVD.out]; unfold tOp; rw [if_neg c2]⟩
          have HOZ : Sh (Kd.R k40 40 (wr.alloc (.cells #[.int .i64 d0, .int .i64 d1, .int .i64 d2, .int .i64 d3, .int .i64 0, .int .i64 300] 40)) w1.heap.size (fun _ => True) u12 (tU t D i)) := ⟨Kd.R_alloc HO.out _⟩
          have HBZ : Sh (Below w1.heap.size w1 (wr.alloc (.cells #[.int .i64 d0, .int .i64 d1, .int .i64 d2, .int .i64 d3, .int .i64 0, .int .i64 300] 40))) := ⟨below_alloc HB.out _⟩
          go_wp2_with ((with_reducible refine gate_builtin (b := .append) (xs := #[.tmp 72, .tmp 74]) rfl ?_); at_builtin; refine Kd.R_append k40 (w0 := w1) w1.heap.size rfl (.tmp 72) (.tmp 74) 23 40 (.agg #[(.int .i64 0), (.int .i64 0), (.int .i64 0), (.int .i64 0), (.int .i64 0), (.int .i64 0)]) 48 rfl Try.underlying23 info40 rfl (by decide) (by omega) u12 (tU t D i) (⟨⟨d0, d1, d2, d3⟩, 0, 300⟩ : Oq) [.int .i64 d0, .int .i64 d1, .int .i64 d2, .int .i64 d3, .int .i64 0, .int .i64 300] (fun _ => True) (fun _ => False) rfl (by first | (go_simp; done) | (go_simp; rfl)) ?aP (fun _ hk => hk.elim) ?aF ?aO ?aB ?aS ?aL ?_; (case aP => exact k40_mkM _ _ _ (⟨⟨d0, d1, d2, d3⟩, 0, 300⟩ : Oq)); (case aB => exact HBZ.out); (case aF => exact fun _ _ => trivial); (case aO => exact HOZ.out); (case aS => exact HBZ.out.size); (case aL => rw [tU_len]; omega); intro v1 w9 ho hb hg hat; have HO9 := Sh.mk ho; have HB9 := Sh.mk hb; clear ho hb hg hat)
          go_roundw
          case rel => exact ⟨i + 1, z + 1, HN, rfl, ⟨by have := HZ.out; omega⟩, ⟨by rw [HV.out]; exact HO9.out⟩, HB9⟩
          case measure => have := HZ.out; have := C1.out; simp [intOf]; omega
      · have hi : i = 3 := by have := HI.out; omega
        subst hi
        have s1 : decide (z < 3) = false := decide_eq_false (by have := HZ.out; omega)
        have HBE := Sh.mk (below_then HB1.out HB1.out.size HB.out)
        have hx := tOp_ok HU.out (aD N T) 0
        have hy := tOp_ok HU.out (fD T) 1
        have hz := tOp_ok HU.out (fD T) 2
        have HL : tU t D 3 = [tOp t (aD N T) 0, tOp t (fD T) 1, tOp t (fD T) 2] := by rw [HDE.out]; rfl
        rw [HL] at HO
        generalize tOp t (aD N T) 0 = x at hx HO
        generalize tOp t (fD T) 1 = y at hy HO
        generalize tOp t (fD T) 2 = zz at hz HO
        have hN := ord_aff HNT.out.1 HNT.out.2 hx hy hz
        obtain ⟨Ax, cx, ex⟩ := Kd.R_slice HO.out
        subst ex
        have HC := Sh.mk (Kd.R_reads' HO.out)
        have HN := Sh.mk hN
        have HX := Sh.mk (And.intro hx hy)
        have HO1 : Sh (Calls Try.prog 13 #[.int .i64 16384, .slice Ax 3 cx] wr (OrdPost 16384 [x, y, zz] wr)) := ⟨order_any 16384 Ax cx [x, y, zz] wr (by decide) HC.out.2.2 HC.out.2.1 (by simp)⟩
        clear hx hy hz hN HL
        go_wp2_with fail
        (with_reducible refine HO1.out.mono ?_); rintro e w5 ⟨r, hr, v5, rfl, hv5, hb5⟩
        obtain rfl : none = r := by rw [← HN.out]; exact ordF_is hr
        have hv5 : Kd.R (Kd.int .i64) 3 w5 wr.heap.size (fun _ => True) v5 ([] : List Int) := hv5
        obtain ⟨A5, c5, e5⟩ := Kd.R_slice hv5
        subst e5
        have HB5 := Sh.mk (below_then HBE.out HBE.out.size hb5)
        have HC5 : Sh (Kd.C k40 w5 Ax ([x, y, zz] : List Oq).length [x, y, zz]) := ⟨Kd.C_below HC.out.2.2 hb5⟩
        clear hr hv5 hb5 HO1
        obtain ⟨i28, hi28, hi2, hi3, hi4⟩ := info_parts info40
        have cut1 : ∀ W : World, (Instr.slice 23 (.slice Ax 3 cx) none (some (.int .i64 2)) none).run Try.prog W = .ok (.slice Ax 2 cx) W := by
          have := cut_to (P := Try.prog) 23 40 .i64 Try.underlying23 hi28 Ax [x, y, zz].length cx 2 (by omega) (by simp) HC.out.2.1
          simpa using this
        have HO2 : Sh (Calls Try.prog 13 #[.int .i64 16384, .slice Ax 2 cx] w5 (OrdPost 16384 [x, y] w5)) := ⟨order_any 16384 Ax cx [x, y] w5 (by decide) (Kd.C_take HC5.out (m := 2) (by simp)) (by have := HC.out.2.1; simp at this ⊢; omega) (by simp)⟩
        clear hi28 hi2 hi3 hi4
        have HCL : Sh (∀ W, Below w5.heap.size w5 W → ∃ ad, Ax = some ad ∧ W.cell? ⟨ad.block, ad.off + 6 + 5, none⟩ = some (.int .i64 y.f2) ∧ W.cell? ⟨ad.block, ad.off + 4, none⟩ = some (.int .i64 x.f1)) := ⟨fun W hW => by
          obtain ⟨ad, ea, -, -, -, -, -, h5⟩ := at_T40 (Kd.C_below HC5.out hW) 1 (by omega) (by simp)
          obtain ⟨ad2, ea2, -, -, -, -, h4, -⟩ := at_T40 (Kd.C_below HC5.out hW) 0 (by omega) (by simp)
          subst ea
          obtain rfl : ad = ad2 := Option.some.inj ea2
          rw [show (rd_T40 [x, y, zz] 1).f2 = y.f2 from rfl] at h5
          rw [show (rd_T40 [x, y, zz] 0).f1 = x.f1 from rfl] at h4
          exact ⟨ad, rfl, by simpa [Addr.add] using h5, by simpa [Addr.add] using h4⟩⟩
        by_cases cc : y.f2 < x.f1
        · have hR := ord_fa HX.out.1 HX.out.2 cc
          have HRR := Sh.mk hR
          have dc : decide (y.f2 < x.f1) = true := decide_eq_true cc
          clear hR cc
          go_wp2_with fail
          (with_reducible refine HO2.out.mono ?_); rintro e w6 ⟨r, hr, v6, rfl, hv6, hb6⟩
          obtain rfl : none = r := by rw [← HRR.out]; exact ordF_is hr
          have hv6 : Kd.R (Kd.int .i64) 3 w6 w5.heap.size (fun _ => True) v6 ([] : List Int) := hv6
          obtain ⟨A6, c6, e6⟩ := Kd.R_slice hv6
          subst e6
          have HB6 := Sh.mk (below_then HB5.out HB5.out.size hb6)
          obtain ⟨ad, ea, h5, h4⟩ := HCL.out w6 hb6
          subst ea
          clear hr hv6 hb6 HO2 cut1
          go_wp2_with fail
          go_quiet (fail)
          go_wp2_with fail
          (with_reducible refine (lawake_any _).mono ?_); rintro e w7 ⟨rfl, b⟩
          have HB7 := Sh.mk (below_then (pw_below_drewN HB6.out _) (pw_below_drewN HB6.out _).size b)
          clear b
          go_wp2
          go_ret
          exact ⟨rfl, HB7.out⟩
        · obtain ⟨R, hR, hRl⟩ := ord_af HNT.out.1 HNT.out.2 HX.out.1 HX.out.2 cc
          have HRR := Sh.mk hR
          have HRL := Sh.mk hRl
          have dc : decide (y.f2 < x.f1) = false := decide_eq_false cc
          clear hR hRl cc
          go_wp2_with fail
          (with_reducible refine HO2.out.mono ?_); rintro e w6 ⟨r, hr, v6, rfl, hv6, hb6⟩
          obtain rfl : some R = r := by rw [← HRR.out]; exact ordF_is hr
          have hv6 : Kd.R (Kd.int .i64) 3 w6 w5.heap.size (fun _ => True) v6 (upI R) := hv6
          have hq : (upI R).length = 2 := by rw [upI_len]; exact HRL.out
          generalize upI R = q at hv6 hq
          obtain ⟨A6, c6, e6⟩ := Kd.R_slice hv6
          subst e6
          have HB6 := Sh.mk (below_then HB5.out HB5.out.size hb6)
          obtain ⟨ad, ea, h5, h4⟩ := HCL.out w6 hb6
          subst ea
          clear hr hv6 hb6 HO2 cut1
          go_wp2_with fail
          go_quiet (fail)
          go_wp2_with fail
          (with_reducible refine (lawake_any _).mono ?_); rintro e w7 ⟨rfl, b⟩
          have HB7 := Sh.mk (below_then (pw_below_drewN HB6.out _) (pw_below_drewN HB6.out _).size b)
          clear b
          go_wp2
          go_ret
          exact ⟨rfl, HB7.out⟩
end Go.Proofs.Ytpddppipjlagfaa
