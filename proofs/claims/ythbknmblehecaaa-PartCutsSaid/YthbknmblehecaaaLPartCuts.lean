/- PartCuts' walk: words cut into pieces are whole, of just so many words; each word is of the list that its piece stands in. No statement is proved here. -/
import Derived.Test.YthbknmblehecaaaMadeCalls
namespace Go.Proofs.Ythbknmblehecaaa
set_option linter.unusedVariables false
set_option linter.unusedSimpArgs false
open Go.RowKit Go.Proofs.YthbknmblehecaaaW.PrintWords Go.Proofs.YthbknmblehecaaaW.PrintLast Go.Proofs.YthbknmblehecaaaW.PrintMore Pr Go.Proofs.Ythbknmblehecaaa.Pure

set_option maxRecDepth 100000 in
set_option maxHeartbeats 16000000 in
theorem partCuts_any (A : Option Addr) (c : Nat) (ns : List Int) (off : Int) (w : World) (hr : Kd.C (Kd.int .u8) w A ns.length ns) (hc : ns.length ≤ c) (hw : ∀ x ∈ ns, (Lit.int .u8 x).wf = true) (hy : ns.length * 1 ≤ 140737488351232) (ho : 0 ≤ off ∧ off ≤ 255) :
    Calls Try.prog 10 #[.slice A ns.length c, .int .u8 off] w fun e w' => e = .returned (.bool true) ∧ Below w.heap.size w w' := by
  have hcont : cont (pcs ns) 0 := pcsN_cont ns (fun i => (rd_u8 hw i).1) _ _ _
  have hlen : (pcs ns).length = min (ns.length / 2) 100 := by unfold pcs; rw [pcsN_len]
  have hend := endP_ge (pcs ns) 0 hcont
  have HM := Sh.mk (made_any A c ns w hr hc hw hy)
  have HU8 := Sh.mk (rd_u8 hw)
  have HR := Sh.mk hr
  obtain ⟨N, hN⟩ : ∃ N, N = ns.length := ⟨_, rfl⟩
  obtain ⟨W, hW⟩ : ∃ W, W = endP (pcs ns) 0 := ⟨_, rfl⟩
  have hWb : 0 ≤ W ∧ W ≤ 4000 := by omega
  have HCONT := Sh.mk hcont
  have HLEN := Sh.mk hlen
  have HNN := Sh.mk hN
  have HWW := Sh.mk hW
  have hN2 : N ≤ 140737488351232 := by omega
  have HAW : Sh (∀ V : World, Calls Try.prog 28 #[] V fun e w' => e = .returned (.bool true) ∧ Below V.heap.size V w') := ⟨fun V => awake_any V⟩
  rw [← hN] at hc HR ⊢
  rw [← hN, ← hW] at HM
  clear hr hw hy hcont hlen hend hN hW
  go_enter Try.func10, Try.ntmps10
  go_wp2_with fail
  (with_reducible refine HM.out.mono ?_); rintro e w1 ⟨A0, A1, A2, A3, A4, A5, A6, c0, c1, c2, c3, c4, c5, c6, l0, l1, l2, l3, l4, l5, l6, rfl, hS, hfl, hsort, hkind, hB⟩
  have HKC : Sh (∀ V : World, Below w1.heap.size w1 V → ∀ a, Calls Try.prog 32 #[.agg #[.slice A0 l0.length c0, .slice A1 l1.length c1, .slice A2 l2.length c2, .slice A3 l3.length c3, .slice A4 l4.length c4, .slice A5 l5.length c5, .slice A6 l6.length c6], .int .i64 a] V fun e w' => e = .returned (.int .i64 (kOf (pcs ns) a)) ∧ Below V.heap.size V w') := ⟨fun V hV a => by
    rw [← hkind a]; exact kind_of (hS.below hV) (by omega) a⟩
  have HWC : Sh (∀ V : World, Below w1.heap.size w1 V → ∀ a, Calls Try.prog 34 #[.agg #[.slice A0 l0.length c0, .slice A1 l1.length c1, .slice A2 l2.length c2, .slice A3 l3.length c3, .slice A4 l4.length c4, .slice A5 l5.length c5, .slice A6 l6.length c6], .int .i64 a] V fun e w' => e = .returned (.bool (decide (W = a) && decide (a ≤ 2147483648))) ∧ Below V.heap.size V w') := ⟨fun V hV a => by
    have h := whole_of (hS.below hV) (by omega) a
    rw [hsort, wh_cont (pcs ns) a 0 (Int.le_refl 0) (by have := HLEN.out; omega) HCONT.out, ← HWW.out] at h
    exact h⟩
  have HB0 : Sh (Below w.heap.size w w1) := ⟨hB⟩
  clear hS hfl hsort hkind hB
  obtain ⟨m0, e0⟩ : ∃ n, n = l0.length := ⟨_, rfl⟩
  obtain ⟨m1, e1⟩ : ∃ n, n = l1.length := ⟨_, rfl⟩
  obtain ⟨m2, e2⟩ : ∃ n, n = l2.length := ⟨_, rfl⟩
  obtain ⟨m3, e3⟩ : ∃ n, n = l3.length := ⟨_, rfl⟩
  obtain ⟨m4, e4⟩ : ∃ n, n = l4.length := ⟨_, rfl⟩
  obtain ⟨m5, e5⟩ : ∃ n, n = l5.length := ⟨_, rfl⟩
  obtain ⟨m6, e6⟩ : ∃ n, n = l6.length := ⟨_, rfl⟩
  rw [← e0, ← e1, ← e2, ← e3, ← e4, ← e5, ← e6] at HKC HWC ⊢
  clear e0 e1 e2 e3 e4 e5 e6
  have HBX : Sh (Blk (w1.alloc (.cells #[.slice A0 m0 c0, .slice A1 m1 c1, .slice A2 m2 c2, .slice A3 m3 c3, .slice A4 m4 c4, .slice A5 m5 c5, .slice A6 m6 c6] 46)) w1.heap.size 46 #[.slice A0 m0 c0, .slice A1 m1 c1, .slice A2 m2 c2, .slice A3 m3 c3, .slice A4 m4 c4, .slice A5 m5 c5, .slice A6 m6 c6]) := ⟨Blk.new w1 _ _⟩
  have HB1 : Sh (Below w1.heap.size w1 (w1.alloc (.cells #[.slice A0 m0 c0, .slice A1 m1 c1, .slice A2 m2 c2, .slice A3 m3 c3, .slice A4 m4 c4, .slice A5 m5 c5, .slice A6 m6 c6] 46))) := ⟨below_alloc (Below.refl _ _) _⟩
  go_wp2
  generalize hww : (w1.alloc (.cells #[.slice A0 m0 c0, .slice A1 m1 c1, .slice A2 m2 c2, .slice A3 m3 c3, .slice A4 m4 c4, .slice A5 m5 c5, .slice A6 m6 c6] 46)) = wb at HBX HB1 ⊢
  clear hww
  have HCELL : Sh (∀ V : World, Below wb.heap.size wb V → V.cell? ⟨w1.heap.size, 0, none⟩ = some (.slice A0 m0 c0) ∧ V.cell? ⟨w1.heap.size, 1, none⟩ = some (.slice A1 m1 c1) ∧ V.cell? ⟨w1.heap.size, 2, none⟩ = some (.slice A2 m2 c2) ∧ V.cell? ⟨w1.heap.size, 3, none⟩ = some (.slice A3 m3 c3) ∧ V.cell? ⟨w1.heap.size, 4, none⟩ = some (.slice A4 m4 c4) ∧ V.cell? ⟨w1.heap.size, 5, none⟩ = some (.slice A5 m5 c5) ∧ V.cell? ⟨w1.heap.size, 6, none⟩ = some (.slice A6 m6 c6)) := ⟨fun V hV => by
    have h := HBX.out.kp (Kp.of_below hV []) (by simp)
    exact ⟨(h.cell 0).trans rfl, (h.cell 1).trans rfl, (h.cell 2).trans rfl, (h.cell 3).trans rfl, (h.cell 4).trans rfl, (h.cell 5).trans rfl, (h.cell 6).trans rfl⟩⟩
  obtain ⟨g, hg⟩ : ∃ g, g = w1.heap.size := ⟨_, rfl⟩
  rw [← hg] at HCELL ⊢
  clear hg HBX
  go_loopw [7, 8, 9, 10] (fun av iv nv kv wr => ∃ (t : Nat) (a : Int) (P1 : List (Int × Pc)), iv = .int .i64 ((2 * t : Nat) : Int) ∧ av = .int .i64 a ∧ 2 * t ≤ N + 1 ∧ t ≤ 100 ∧ 0 ≤ a ∧ a ≤ 4000 ∧ Sh (pcs ns = P1 ++ pcsN ns (min (N / 2) 100 - t) t a ∧ a = endP P1 0 ∧ t ≤ min (N / 2) 100) ∧ Sh (Below wb.heap.size wb wr)) (fun av iv nv kv _ => N + 2 - (intOf iv).toNat)
  case atStart => exact ⟨0, 0, [], rfl, rfl, by omega, by omega, by omega, by omega, ⟨⟨by rw [HNN.out]; rfl, rfl, by omega⟩⟩, ⟨Below.refl _ _⟩⟩
  case round =>
    obtain ⟨t, a, P1, rfl, rfl, ht1, ht2, ha0, ha1, HP, HB⟩ := hrel
    have v1 : IntKind.i64.wrap (((2 * t : Nat) : Int) + 1) = ((2 * t + 1 : Nat) : Int) := by rw [IntKind.wrap_i64]; omega
    obtain ⟨i, hi⟩ : ∃ i, i = 2 * t := ⟨_, rfl⟩
    have HI := Sh.mk hi
    rw [← hi] at v1 ⊢
    have v1' : IntKind.i64.wrap ((i : Int) + 1) = (i : Int) + 1 := by rw [IntKind.wrap_i64]; omega
    by_cases hlt : i + 1 < N ∧ i < 200
    · obtain ⟨hlt1, hlt2⟩ := hlt
      obtain ⟨u, hu⟩ : ∃ u, u = rd ns (i : Int) := ⟨_, rfl⟩
      obtain ⟨v, hv⟩ : ∃ v, v = rd ns ((i : Int) + 1) := ⟨_, rfl⟩
      have hub := HU8.out (i : Int)
      have hvb := HU8.out ((i : Int) + 1)
      rw [← hu] at hub
      rw [← hv] at hvb
      obtain ⟨n, hn⟩ : ∃ n, n = 1 + u % 40 := ⟨_, rfl⟩
      obtain ⟨κ, hκ⟩ : ∃ κ, κ = 1 + v % 7 := ⟨_, rfl⟩
      have hhead : pcs ns = (P1 ++ [(κ, (⟨a, n⟩ : Pc))]) ++ pcsN ns (min (N / 2) 100 - (t + 1)) (t + 1) (a + n) := by
        rw [HP.out.1, pcsN_head ns _ t a (by omega)]
        have e1 : ((2 * t : Nat) : Int) = (i : Int) := by omega
        have e2 : ((2 * t + 1 : Nat) : Int) = (i : Int) + 1 := by omega
        rw [e1, e2, ← hu, ← hv, ← hn, ← hκ, show min (N / 2) 100 - t - 1 = min (N / 2) 100 - (t + 1) by omega]
        simp
      have HHEAD := Sh.mk hhead
      have hmem : (κ, (⟨a, n⟩ : Pc)) ∈ pcs ns := by rw [hhead]; simp
      have HK1 : Sh (∀ k : Int, a ≤ k → k < a + n → kOf (pcs ns) k = κ) := ⟨fun k h1 h2 => by
        exact kOf_of (p := (κ, ⟨a, n⟩)) (Int.le_refl 0) (by have := HLEN.out; omega) HCONT.out hmem ((hasP_iff (x := ⟨a, n⟩) (by dsimp only; omega) (by dsimp only; omega) (by dsimp only; omega) (by dsimp only; omega)).2 ⟨h1, h2⟩)⟩
      have hnn : 1 ≤ n ∧ n ≤ 40 := by omega
      have han : a + n ≤ 4000 := by
        have h1 := (cont_ge (pcs ns) 0 HCONT.out _ hmem).2.1
        rw [← HWW.out] at h1
        dsimp only at h1
        omega
      have HEND : Sh (a + n = endP (P1 ++ [(κ, (⟨a, n⟩ : Pc))]) 0) := ⟨by rw [endP_append, ← HP.out.2.1]; rfl⟩
      obtain ⟨ad, rfl, hcu⟩ := Kd.at_int (Kd.C_below HR.out (below_step HB0.out (below_step HB1.out HB.out))) (i : Int) (by omega) (by omega)
      rw [Int.toNat_natCast, ← hu] at hcu
      obtain ⟨i1, hi1⟩ : ∃ i1, i1 = i + 1 := ⟨_, rfl⟩
      have HCV : Sh (∀ V : World, Below wb.heap.size wb V → V.cell? (ad.add i1) = some (.int .u8 v)) := ⟨fun V hV => by
        obtain ⟨ad2, e2, h2⟩ := Kd.at_int (Kd.C_below HR.out (below_step HB0.out (below_step HB1.out hV))) ((i : Int) + 1) (by omega) (by omega)
        obtain rfl : ad = ad2 := Option.some.inj e2
        rw [← hv, show ((i : Int) + 1).toNat = i1 by omega] at h2
        exact h2⟩
      have w1_ : IntKind.i64.wrap u = u := by rw [IntKind.wrap_i64]; omega
      have w2_ : IntKind.i64.wrap v = v := by rw [IntKind.wrap_i64]; omega
      have r1 : u.tmod 40 = n - 1 := by rw [Int.tmod_eq_emod_of_nonneg (by omega)]; omega
      have r2 : v.tmod 7 = κ - 1 := by rw [Int.tmod_eq_emod_of_nonneg (by omega)]; omega
      have r3 : IntKind.i64.wrap (1 + (n - 1)) = n := by rw [IntKind.wrap_i64]; omega
      have r4 : IntKind.i64.wrap (1 + (κ - 1)) = κ := by rw [IntKind.wrap_i64]; omega
      have r5 : IntKind.i64.wrap (a + n) = a + n := by rw [IntKind.wrap_i64]; omega
      have hb1 : decide ((i : Int) < 200) = true := decide_eq_true (by omega)
      have hz1 : (i : Int) + 1 < (N : Int) := by omega
      have hz2 : (i : Int) < (N : Int) := by omega
      have hz3 : ((i : Int) + 1).toNat = i1 := by omega
      have hz4 : (0 : Int) ≤ (i : Int) + 1 := by omega
      clear hi hi1 hu hv hn hκ hhead hmem hub hvb v1
      go_wp2
      go_loopw [10] (fun kv wr => ∃ (k : Int), kv = .int .i64 k ∧ a ≤ k ∧ k ≤ a + n ∧ Sh (Below wb.heap.size wb wr)) (fun kv _ => 5000 - (intOf kv).toNat)
      case atStart => exact ⟨a, rfl, Int.le_refl _, by omega, HB⟩
      case round =>
        obtain ⟨k, rfl, hk1, hk2, HBi⟩ := hrel
        by_cases hk : k < a + n
        · have hkk := HK1.out k hk1 hk
          have HKV : Sh (∀ V : World, Below wb.heap.size wb V → Calls Try.prog 32 #[.agg #[.slice A0 m0 c0, .slice A1 m1 c1, .slice A2 m2 c2, .slice A3 m3 c3, .slice A4 m4 c4, .slice A5 m5 c5, .slice A6 m6 c6], .int .i64 k] V fun e w' => e = .returned (.int .i64 κ) ∧ Below V.heap.size V w') := ⟨fun V hV => by rw [← hkk]; exact HKC.out V (below_step HB1.out hV) k⟩
          have hp0 : ∀ p : Bel wr, p.u.cell? ⟨g, 0, none⟩ = some (.slice A0 m0 c0) := fun p => (HCELL.out _ (below_step HBi.out p.h)).1
          have hp1 : ∀ p : Bel wr, p.u.cell? ⟨g, 1, none⟩ = some (.slice A1 m1 c1) := fun p => (HCELL.out _ (below_step HBi.out p.h)).2.1
          have hp2 : ∀ p : Bel wr, p.u.cell? ⟨g, 2, none⟩ = some (.slice A2 m2 c2) := fun p => (HCELL.out _ (below_step HBi.out p.h)).2.2.1
          have hp3 : ∀ p : Bel wr, p.u.cell? ⟨g, 3, none⟩ = some (.slice A3 m3 c3) := fun p => (HCELL.out _ (below_step HBi.out p.h)).2.2.2.1
          have hp4 : ∀ p : Bel wr, p.u.cell? ⟨g, 4, none⟩ = some (.slice A4 m4 c4) := fun p => (HCELL.out _ (below_step HBi.out p.h)).2.2.2.2.1
          have hp5 : ∀ p : Bel wr, p.u.cell? ⟨g, 5, none⟩ = some (.slice A5 m5 c5) := fun p => (HCELL.out _ (below_step HBi.out p.h)).2.2.2.2.2.1
          have hp6 : ∀ p : Bel wr, p.u.cell? ⟨g, 6, none⟩ = some (.slice A6 m6 c6) := fun p => (HCELL.out _ (below_step HBi.out p.h)).2.2.2.2.2.2
          have hp7 : ∀ p : Bel wr, p.u.cell? (ad.add i1) = some (.int .u8 v) := fun p => HCV.out _ (below_step HBi.out p.h)
          have v3 : IntKind.i64.wrap (k + 1) = k + 1 := by rw [IntKind.wrap_i64]; omega
          clear hkk
          go_wp2_with fail
          refine wp_region_below (by kernel_rfl) (by kernel_rfl) ?_
          repeat (go_big_quiet_step (first | (go_at_call 32; with_reducible refine Calls.bel_of (HKV.out _ (by first | exact below_step HBi.out (Bel.h _))))))
          refine wpQuiet_nil ?_
          intro _ hw'
          obtain ⟨p, hw''⟩ := hw'
          subst hw''
          have HB3 : Sh (Below wb.heap.size wb p.u) := ⟨below_step HBi.out p.h⟩
          generalize p.u = w3 at HB3 ⊢
          clear hp0 hp1 hp2 hp3 hp4 hp5 hp6 hp7 HKV
          go_wp2
          go_roundw
          case measure => simp [intOf]; omega
          case rel => exact ⟨k + 1, rfl, by omega, by omega, HB3⟩
        · go_wp2
          go_roundw
          case measure => simp [intOf]; have := HI.out; omega
          case rel => exact ⟨t + 1, a + n, P1 ++ [(κ, ⟨a, n⟩)], by have := HI.out; first | (congr 1; omega) | (congr 2; omega), rfl, by have := HI.out; omega, by have := HI.out; omega, by omega, han, ⟨⟨HHEAD.out, HEND.out, by have := HI.out; omega⟩⟩, HBi⟩
    · have haW : a = W := by
        have h1 := HP.out
        have h2 := HWW.out
        have h3 := HI.out
        rw [h1.1, show min (N / 2) 100 - t = 0 by omega] at h2
        rw [h2]
        simpa [pcsN] using h1.2.1
      have HBW : Sh (∀ p : Bel wr, Below wb.heap.size wb p.u) := ⟨fun p => below_step HB.out p.h⟩
      have HW1 : Sh (∀ V : World, Below wb.heap.size wb V → Calls Try.prog 34 #[.agg #[.slice A0 m0 c0, .slice A1 m1 c1, .slice A2 m2 c2, .slice A3 m3 c3, .slice A4 m4 c4, .slice A5 m5 c5, .slice A6 m6 c6], .int .i64 W] V fun e w' => e = .returned (.bool true) ∧ Below V.heap.size V w') := ⟨fun V hV => by
        have h := HWC.out V (below_step HB1.out hV) W
        rwa [show (decide (W = W) && decide (W ≤ 2147483648)) = true by simp; omega] at h⟩
      have HW2 : Sh (∀ V : World, Below wb.heap.size wb V → ∀ x : Int, x ≠ W → Calls Try.prog 34 #[.agg #[.slice A0 m0 c0, .slice A1 m1 c1, .slice A2 m2 c2, .slice A3 m3 c3, .slice A4 m4 c4, .slice A5 m5 c5, .slice A6 m6 c6], .int .i64 x] V fun e w' => e = .returned (.bool false) ∧ Below V.heap.size V w') := ⟨fun V hV x hx => by
        have h := HWC.out V (below_step HB1.out hV) x
        rwa [decide_eq_false (fun h => hx h.symm), Bool.false_and] at h⟩
      have HK2 : Sh (∀ V : World, Below wb.heap.size wb V → ∀ x : Int, (x < 0 ∨ W ≤ x) → Calls Try.prog 32 #[.agg #[.slice A0 m0 c0, .slice A1 m1 c1, .slice A2 m2 c2, .slice A3 m3 c3, .slice A4 m4 c4, .slice A5 m5 c5, .slice A6 m6 c6], .int .i64 x] V fun e w' => e = .returned (.int .i64 0) ∧ Below V.heap.size V w') := ⟨fun V hV x hx => by
        have h := HKC.out V (below_step HB1.out hV) x
        rwa [kOf_none (fun p hp => by
          have hg := cont_ge (pcs ns) 0 HCONT.out p hp
          rw [← HWW.out] at hg
          cases hh : hasP x p.2 with
          | false => rfl
          | true => have := (hasP_iff (a := x) (x := p.2) (by omega) (by omega) (by omega) (by omega)).1 hh; omega)] at h⟩
      obtain ⟨x1, hx1⟩ : ∃ x1, x1 = W + 1 + off := ⟨_, rfl⟩
      obtain ⟨x3, hx3⟩ : ∃ x3, x3 = W + off := ⟨_, rfl⟩
      obtain ⟨x4, hx4⟩ : ∃ x4, x4 = -1 - off := ⟨_, rfl⟩
      have n1 : x1 ≠ W := by omega
      have n3 : x3 < 0 ∨ W ≤ x3 := .inr (by omega)
      have n4 : x4 < 0 ∨ W ≤ x4 := .inl (by omega)
      have N1 := Sh.mk n1
      have N3 := Sh.mk n3
      have N4 := Sh.mk n4
      have u1 : IntKind.i64.wrap off = off := by rw [IntKind.wrap_i64]; omega
      have u2 : IntKind.i64.wrap (W + 1) = W + 1 := by rw [IntKind.wrap_i64]; omega
      have u3 : IntKind.i64.wrap (W + 1 + off) = x1 := by rw [IntKind.wrap_i64]; omega
      have u4 : IntKind.i64.wrap (W + off) = x3 := by rw [IntKind.wrap_i64]; omega
      have u5 : IntKind.i64.wrap (-1 - off) = x4 := by rw [IntKind.wrap_i64]; omega
      subst haW
      clear n1 n3 n4 hx1 hx3 hx4 HP v1
      have hp0 : ∀ p : Bel wr, p.u.cell? ⟨g, 0, none⟩ = some (.slice A0 m0 c0) := fun p => (HCELL.out _ (below_step HB.out p.h)).1
      have hp1 : ∀ p : Bel wr, p.u.cell? ⟨g, 1, none⟩ = some (.slice A1 m1 c1) := fun p => (HCELL.out _ (below_step HB.out p.h)).2.1
      have hp2 : ∀ p : Bel wr, p.u.cell? ⟨g, 2, none⟩ = some (.slice A2 m2 c2) := fun p => (HCELL.out _ (below_step HB.out p.h)).2.2.1
      have hp3 : ∀ p : Bel wr, p.u.cell? ⟨g, 3, none⟩ = some (.slice A3 m3 c3) := fun p => (HCELL.out _ (below_step HB.out p.h)).2.2.2.1
      have hp4 : ∀ p : Bel wr, p.u.cell? ⟨g, 4, none⟩ = some (.slice A4 m4 c4) := fun p => (HCELL.out _ (below_step HB.out p.h)).2.2.2.2.1
      have hp5 : ∀ p : Bel wr, p.u.cell? ⟨g, 5, none⟩ = some (.slice A5 m5 c5) := fun p => (HCELL.out _ (below_step HB.out p.h)).2.2.2.2.2.1
      have hp6 : ∀ p : Bel wr, p.u.cell? ⟨g, 6, none⟩ = some (.slice A6 m6 c6) := fun p => (HCELL.out _ (below_step HB.out p.h)).2.2.2.2.2.2
      have ASK : (a = 0) ∨ (¬ a = 0 ∧ ∃ q, off.tmod a = q ∧ q ≠ a) := by
        by_cases h : a = 0
        · exact .inl h
        · refine .inr ⟨h, _, rfl, ?_⟩
          have := Int.tmod_lt_of_pos off (show 0 < a by omega)
          omega
      rcases (show (¬ i + 1 < N) ∨ (i + 1 < N ∧ ¬ i < 200) by omega) with hx | ⟨hx, hy⟩ <;> rcases ASK with hz | ⟨hz, q, hq1, hq2⟩
      · have bz : (a == 0) = true := beq_iff_eq.2 hz
        clear hlt hz
        go_wp2_with fail
        refine wp_region_below (by kernel_rfl) (by kernel_rfl) ?_
        repeat (go_big_quiet_step (first | (go_at_call 28; with_reducible refine Calls.bel_of (HAW.out _)) | (go_at_call 34; first | with_reducible refine Calls.bel_of (HW1.out _ (HBW.out _)) | with_reducible refine Calls.bel_of (HW2.out _ (HBW.out _) _ N1.out) | with_reducible refine Calls.bel_of (HW2.out _ (HBW.out _) _ N2.out)) | (go_at_call 32; first | with_reducible refine Calls.bel_of (HK2.out _ (HBW.out _) _ N3.out) | with_reducible refine Calls.bel_of (HK2.out _ (HBW.out _) _ N4.out))))
        refine wpQuiet_nil ?_
        intro _ hw'
        obtain ⟨p, hw''⟩ := hw'
        subst hw''
        have HB3 : Sh (Below w.heap.size w p.u) := ⟨below_step HB0.out (below_step HB1.out (below_step HB.out p.h))⟩
        generalize p.u = w3 at HB3 ⊢
        go_wp2
        go_ret
        exact ⟨rfl, HB3.out⟩
      · have bz : (a == 0) = false := beq_eq_false_iff_ne.2 hz
        have N2 := Sh.mk hq2
        clear hlt hq2
        go_wp2_with fail
        refine wp_region_below (by kernel_rfl) (by kernel_rfl) ?_
        repeat (go_big_quiet_step (first | (go_at_call 28; with_reducible refine Calls.bel_of (HAW.out _)) | (go_at_call 34; first | with_reducible refine Calls.bel_of (HW1.out _ (HBW.out _)) | with_reducible refine Calls.bel_of (HW2.out _ (HBW.out _) _ N1.out) | with_reducible refine Calls.bel_of (HW2.out _ (HBW.out _) _ N2.out)) | (go_at_call 32; first | with_reducible refine Calls.bel_of (HK2.out _ (HBW.out _) _ N3.out) | with_reducible refine Calls.bel_of (HK2.out _ (HBW.out _) _ N4.out))))
        refine wpQuiet_nil ?_
        intro _ hw'
        obtain ⟨p, hw''⟩ := hw'
        subst hw''
        have HB3 : Sh (Below w.heap.size w p.u) := ⟨below_step HB0.out (below_step HB1.out (below_step HB.out p.h))⟩
        generalize p.u = w3 at HB3 ⊢
        go_wp2
        go_ret
        exact ⟨rfl, HB3.out⟩
      · have b9 : decide ((i : Int) < 200) = false := decide_eq_false (by omega)
        have bz : (a == 0) = true := beq_iff_eq.2 hz
        clear hlt hz
        go_wp2_with fail
        refine wp_region_below (by kernel_rfl) (by kernel_rfl) ?_
        repeat (go_big_quiet_step (first | (go_at_call 28; with_reducible refine Calls.bel_of (HAW.out _)) | (go_at_call 34; first | with_reducible refine Calls.bel_of (HW1.out _ (HBW.out _)) | with_reducible refine Calls.bel_of (HW2.out _ (HBW.out _) _ N1.out) | with_reducible refine Calls.bel_of (HW2.out _ (HBW.out _) _ N2.out)) | (go_at_call 32; first | with_reducible refine Calls.bel_of (HK2.out _ (HBW.out _) _ N3.out) | with_reducible refine Calls.bel_of (HK2.out _ (HBW.out _) _ N4.out))))
        refine wpQuiet_nil ?_
        intro _ hw'
        obtain ⟨p, hw''⟩ := hw'
        subst hw''
        have HB3 : Sh (Below w.heap.size w p.u) := ⟨below_step HB0.out (below_step HB1.out (below_step HB.out p.h))⟩
        generalize p.u = w3 at HB3 ⊢
        go_wp2
        go_ret
        exact ⟨rfl, HB3.out⟩
      · have b9 : decide ((i : Int) < 200) = false := decide_eq_false (by omega)
        have bz : (a == 0) = false := beq_eq_false_iff_ne.2 hz
        have N2 := Sh.mk hq2
        clear hlt hq2
        go_wp2_with fail
        refine wp_region_below (by kernel_rfl) (by kernel_rfl) ?_
        repeat (go_big_quiet_step (first | (go_at_call 28; with_reducible refine Calls.bel_of (HAW.out _)) | (go_at_call 34; first | with_reducible refine Calls.bel_of (HW1.out _ (HBW.out _)) | with_reducible refine Calls.bel_of (HW2.out _ (HBW.out _) _ N1.out) | with_reducible refine Calls.bel_of (HW2.out _ (HBW.out _) _ N2.out)) | (go_at_call 32; first | with_reducible refine Calls.bel_of (HK2.out _ (HBW.out _) _ N3.out) | with_reducible refine Calls.bel_of (HK2.out _ (HBW.out _) _ N4.out))))
        refine wpQuiet_nil ?_
        intro _ hw'
        obtain ⟨p, hw''⟩ := hw'
        subst hw''
        have HB3 : Sh (Below w.heap.size w p.u) := ⟨below_step HB0.out (below_step HB1.out (below_step HB.out p.h))⟩
        generalize p.u = w3 at HB3 ⊢
        go_wp2
        go_ret
        exact ⟨rfl, HB3.out⟩
theorem partCuts_walk (A0 : Option Addr) (c0 : Nat) (l0 : List Int) (a1 : Int) (w : World) (hr0 : Kd.C (Kd.int .u8) w A0 l0.length l0) (hc0 : l0.length ≤ c0) (hw0 : ∀ x ∈ l0, (Lit.int .u8 x).wf = true) (y0 : l0.length * 1 ≤ 140737488351232) (hw1 : (Lit.int .u8 a1).wf = true) :
    Calls Try.prog 10 #[.slice A0 l0.length c0, .int .u8 a1] w fun e w' => e = .returned (.bool true) ∧ Below w.heap.size w w' :=
  partCuts_any A0 c0 l0 a1 w hr0 hc0 hw0 y0 (u8_of hw1)
end Go.Proofs.Ythbknmblehecaaa
