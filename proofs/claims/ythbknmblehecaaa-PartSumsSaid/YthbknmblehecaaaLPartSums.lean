/- PartSums' walk: what is whole has as many words as its lists together, each piece begins where the one ahead of it ends, in whatever order the lists have them. No statement is proved here. -/
import Derived.Test.YthbknmblehecaaaBag
import Derived.Test.YthbknmblehecaaaSumsPure
import Derived.Deep.RegionWith
import Derived.Deep.DeepCutAuto
namespace Go.Proofs.Ythbknmblehecaaa
set_option linter.unusedVariables false
set_option linter.unusedSimpArgs false
open Go.RowKit Go.Proofs.YthbknmblehecaaaW.PrintWords Go.Proofs.YthbknmblehecaaaW.PrintLast Go.Proofs.YthbknmblehecaaaW.PrintMore Pr Go.Proofs.Ythbknmblehecaaa.Pure

theorem many_any {A0 A1 A2 A3 A4 A5 A6 : Option Addr} {c0 c1 c2 c3 c4 c5 c6 : Nat} {l0 l1 l2 l3 l4 l5 l6 : List Pc} {w : World} (h : Seven w A0 A1 A2 A3 A4 A5 A6 c0 c1 c2 c3 c4 c5 c6 l0 l1 l2 l3 l4 l5 l6) {b : Bool} (hf : rickyardlaw26_many.f l0 l1 l2 l3 l4 l5 l6 = some b) :
    Calls Try.prog 27 #[.agg #[.slice A0 l0.length c0, .slice A1 l1.length c1, .slice A2 l2.length c2, .slice A3 l3.length c3, .slice A4 l4.length c4, .slice A5 l5.length c5, .slice A6 l6.length c6]] w fun e w' => e = .returned (.bool b) ∧ Below w.heap.size w w' :=
  rickyardlaw26_many.calls A0 c0 l0 A1 c1 l1 A2 c2 l2 A3 c3 l3 A4 c4 l4 A5 c5 l5 A6 c6 l6 b w h.h0.1 h.h0.2 h.h1.1 h.h1.2 h.h2.1 h.h2.2 h.h3.1 h.h3.2 h.h4.1 h.h4.2 h.h5.1 h.h5.2 h.h6.1 h.h6.2 hf
theorem all_of {A0 A1 A2 A3 A4 A5 A6 : Option Addr} {c0 c1 c2 c3 c4 c5 c6 : Nat} {l0 l1 l2 l3 l4 l5 l6 : List Pc} {w : World} (h : Seven w A0 A1 A2 A3 A4 A5 A6 c0 c1 c2 c3 c4 c5 c6 l0 l1 l2 l3 l4 l5 l6) (hl : (flat7 l0 l1 l2 l3 l4 l5 l6).length ≤ 100000) :
    Calls Try.prog 30 #[.agg #[.slice A0 l0.length c0, .slice A1 l1.length c1, .slice A2 l2.length c2, .slice A3 l3.length c3, .slice A4 l4.length c4, .slice A5 l5.length c5, .slice A6 l6.length c6]] w fun e w' => ∃ A c, e = .returned (.slice A (sortP (flat7 l0 l1 l2 l3 l4 l5 l6)).length c) ∧ (sortP (flat7 l0 l1 l2 l3 l4 l5 l6)).length ≤ c ∧ Kd.C k58 w' A (sortP (flat7 l0 l1 l2 l3 l4 l5 l6)).length (sortP (flat7 l0 l1 l2 l3 l4 l5 l6)) ∧ Below w.heap.size w w' := by
  refine (part_All.calls A0 c0 l0 A1 c1 l1 A2 c2 l2 A3 c3 l3 A4 c4 l4 A5 c5 l5 A6 c6 l6 _ w h.h0.1 h.h0.2 h.h1.1 h.h1.2 h.h2.1 h.h2.2 h.h3.1 h.h3.2 h.h4.1 h.h4.2 h.h5.1 h.h5.2 h.h6.1 h.h6.2 (all_f hl)).mono ?_
  rintro e w' ⟨v, rfl, hR, hB⟩
  obtain ⟨A, c, rfl, hc, hC⟩ := Kd.R_reads hR
  exact ⟨A, c, rfl, hc, hC, hB⟩
theorem words_of {A : Option Addr} {c : Nat} {l : List Pc} {w : World} (h : Kd.C k58 w A l.length l ∧ l.length ≤ c) (hl : l.length ≤ 100000) :
    Calls Try.prog 36 #[.slice A l.length c] w fun e w' => e = .returned (.int .i64 (ws l)) ∧ Below w.heap.size w w' := by
  obtain ⟨k, hk⟩ := (words_ev l hl).rounds
  refine (part_Words.calls k A c l (ws l) w h.1 h.2 hk).mono ?_
  exact fun e w' h => h

set_option maxRecDepth 100000 in
set_option maxHeartbeats 16000000 in
theorem partSums_any (A0 A1 A2 A3 A4 A5 A6 : Option Addr) (c0 c1 c2 c3 c4 c5 c6 : Nat) (l0 l1 l2 l3 l4 l5 l6 : List Pc) (A : Option Addr) (c : Nat) (ns : List Int) (made : Bool) (words : Int) (w : World)
    (h : Seven w A0 A1 A2 A3 A4 A5 A6 c0 c1 c2 c3 c4 c5 c6 l0 l1 l2 l3 l4 l5 l6)
    (hs : l0.length * 16 ≤ 140737488351232 ∧ l1.length * 16 ≤ 140737488351232 ∧ l2.length * 16 ≤ 140737488351232 ∧ l3.length * 16 ≤ 140737488351232 ∧ l4.length * 16 ≤ 140737488351232 ∧ l5.length * 16 ≤ 140737488351232 ∧ l6.length * 16 ≤ 140737488351232)
    (hr : Kd.C (Kd.int .u8) w A ns.length ns) (hc : ns.length ≤ c) (hw : ∀ x ∈ ns, (Lit.int .u8 x).wf = true) (hy : ns.length * 1 ≤ 140737488351232) :
    Calls Try.prog 12 #[.agg #[.slice A0 l0.length c0, .slice A1 l1.length c1, .slice A2 l2.length c2, .slice A3 l3.length c3, .slice A4 l4.length c4, .slice A5 l5.length c5, .slice A6 l6.length c6], .slice A ns.length c, .bool made, .int .i64 words] w fun e w' => e = .returned (.bool true) ∧ Below w.heap.size w w' := by
  have hu46 := Try.underlying46
  have HS := Sh.mk h
  have HAW : Sh (∀ V : World, Calls Try.prog 28 #[] V fun e w' => e = .returned (.bool true) ∧ Below V.heap.size V w') := ⟨fun V => awake_any V⟩
  have HMD : Sh (∀ V : World, Below w.heap.size w V → Calls Try.prog 38 #[.slice A ns.length c] V fun e w' => ∃ (As : Fin 7 → Option Addr) (ms cs : Fin 7 → Nat) (W : Int) (Q : List (Int × Pc)),
      e = .returned (.tuple #[.agg #[.slice (As 0) (ms 0) (cs 0), .slice (As 1) (ms 1) (cs 1), .slice (As 2) (ms 2) (cs 2), .slice (As 3) (ms 3) (cs 3), .slice (As 4) (ms 4) (cs 4), .slice (As 5) (ms 5) (cs 5), .slice (As 6) (ms 6) (cs 6)], .int .i64 W]) ∧
      Bag V w' As ms cs Q ∧ (flatS Q).length ≤ 1200 ∧ wh (sortP (flatS Q)) 0 W = true ∧ Below V.heap.size V w') := ⟨fun V hV => by
    have hcont : cont (pcs ns) 0 := pcsN_cont ns (fun i => (rd_u8 hw i).1) _ _ _
    have hlen : (pcs ns).length ≤ 100 := by unfold pcs; rw [pcsN_len]; omega
    have hend := endP_ge (pcs ns) 0 hcont
    refine (made_bag A c ns V (Kd.C_below hr hV) hc hw hy).mono ?_
    rintro e w' ⟨As, ms, cs, rfl, h1, h5⟩
    refine ⟨As, ms, cs, _, pcs ns, rfl, h1, ?_, ?_, h5⟩
    · rw [flatS_len _ (fun p hp => (cont_ge _ _ hcont p hp).2.2.2)]; omega
    · rw [flatS_sort hcont, wh_cont (pcs ns) _ 0 (Int.le_refl 0) (by omega) hcont]
      simp
      omega⟩
  have hmany := many_f hs.1 hs.2.1 hs.2.2.1 hs.2.2.2.1 hs.2.2.2.2.1 hs.2.2.2.2.2.1 hs.2.2.2.2.2.2
  clear hs hr hw hy h
  obtain ⟨N, hN⟩ : ∃ N, N = ns.length := ⟨_, rfl⟩
  rw [← hN] at HMD hc ⊢
  clear hN
  have HBX0 : Sh (Blk (w.alloc (.cells #[.slice A0 l0.length c0, .slice A1 l1.length c1, .slice A2 l2.length c2, .slice A3 l3.length c3, .slice A4 l4.length c4, .slice A5 l5.length c5, .slice A6 l6.length c6] 46)) w.heap.size 46 #[.slice A0 l0.length c0, .slice A1 l1.length c1, .slice A2 l2.length c2, .slice A3 l3.length c3, .slice A4 l4.length c4, .slice A5 l5.length c5, .slice A6 l6.length c6]) := ⟨Blk.new w _ _⟩
  have HB0 : Sh (Below w.heap.size w (w.alloc (.cells #[.slice A0 l0.length c0, .slice A1 l1.length c1, .slice A2 l2.length c2, .slice A3 l3.length c3, .slice A4 l4.length c4, .slice A5 l5.length c5, .slice A6 l6.length c6] 46))) := ⟨below_alloc (Below.refl _ _) _⟩
  rcases hmany with hm | ⟨hm, s1, s2⟩
  · have HM : Sh (∀ V : World, Below w.heap.size w V → Calls Try.prog 27 #[.agg #[.slice A0 l0.length c0, .slice A1 l1.length c1, .slice A2 l2.length c2, .slice A3 l3.length c3, .slice A4 l4.length c4, .slice A5 l5.length c5, .slice A6 l6.length c6]] V fun e w' => e = .returned (.bool true) ∧ Below V.heap.size V w') := ⟨fun V hV => many_any (HS.out.below hV) hm⟩
    clear hm
    go_enter Try.func12, Try.ntmps12
    go_wp2_with fail
    (with_reducible refine (HM.out _ HB0.out).mono ?_); rintro e w1 ⟨rfl, hb⟩
    have HB1 : Sh (Below w.heap.size w w1) := ⟨below_step HB0.out hb⟩
    clear hb
    go_wp2_with fail
    (with_reducible refine (HAW.out _).mono ?_); rintro e w2 ⟨rfl, hb⟩
    have HB2 : Sh (Below w.heap.size w w2) := ⟨below_step HB1.out hb⟩
    clear hb
    go_wp2
    go_ret
    exact ⟨rfl, HB2.out⟩
  · have HM : Sh (∀ V : World, Below w.heap.size w V → Calls Try.prog 27 #[.agg #[.slice A0 l0.length c0, .slice A1 l1.length c1, .slice A2 l2.length c2, .slice A3 l3.length c3, .slice A4 l4.length c4, .slice A5 l5.length c5, .slice A6 l6.length c6]] V fun e w' => e = .returned (.bool false) ∧ Below V.heap.size V w') := ⟨fun V hV => many_any (HS.out.below hV) hm⟩
    have HFL : Sh ((flat7 l0 l1 l2 l3 l4 l5 l6).length ≤ 1200) := ⟨by rw [flat7_len]; omega⟩
    clear hm s1 s2
    go_enter Try.func12, Try.ntmps12
    go_wp2_with fail
    (with_reducible refine (HM.out _ HB0.out).mono ?_); rintro e w1 ⟨rfl, hb⟩
    have HB1 : Sh (Below w.heap.size w w1) := ⟨below_step HB0.out hb⟩
    have HBX1 : Sh (Blk w1 w.heap.size 46 #[.slice A0 l0.length c0, .slice A1 l1.length c1, .slice A2 l2.length c2, .slice A3 l3.length c3, .slice A4 l4.length c4, .slice A5 l5.length c5, .slice A6 l6.length c6]) := ⟨HBX0.out.kp (Kp.of_below hb []) (by simp)⟩
    clear hb HM HBX0 HB0
    go_upto_if 17 with fail
    go_cut [3] (fun s3 wx => ∃ (X0 X1 X2 X3 X4 X5 X6 : Option Addr) (m0 m1 m2 m3 m4 m5 m6 e0 e1 e2 e3 e4 e5 e6 : Nat) (t0 t1 t2 t3 t4 t5 t6 : List Pc) (W : Int), s3 = .int .i64 W ∧ Sh (Seven wx X0 X1 X2 X3 X4 X5 X6 e0 e1 e2 e3 e4 e5 e6 t0 t1 t2 t3 t4 t5 t6) ∧ Sh (Blk wx w.heap.size 46 #[.slice X0 m0 e0, .slice X1 m1 e1, .slice X2 m2 e2, .slice X3 m3 e3, .slice X4 m4 e4, .slice X5 m5 e5, .slice X6 m6 e6]) ∧ Sh (m0 = t0.length ∧ m1 = t1.length ∧ m2 = t2.length ∧ m3 = t3.length ∧ m4 = t4.length ∧ m5 = t5.length ∧ m6 = t6.length) ∧ Sh ((flat7 t0 t1 t2 t3 t4 t5 t6).length ≤ 1200) ∧ Sh (made = true → wh (sortP (flat7 t0 t1 t2 t3 t4 t5 t6)) 0 W = true) ∧ Sh (Below w.heap.size w wx))
    case first =>
      cases made with
      | false =>
        go_wp2_with fail
        go_meet
        case rel => exact ⟨A0, A1, A2, A3, A4, A5, A6, l0.length, l1.length, l2.length, l3.length, l4.length, l5.length, l6.length, c0, c1, c2, c3, c4, c5, c6, l0, l1, l2, l3, l4, l5, l6, words, rfl, ⟨HS.out.below HB1.out⟩, HBX1, ⟨⟨rfl, rfl, rfl, rfl, rfl, rfl, rfl⟩⟩, HFL, ⟨fun h => by cases h⟩, HB1⟩
      | true =>
        clear HS HFL
        go_wp2_with fail
        (with_reducible refine (HMD.out _ HB1.out).mono ?_); rintro e w2 ⟨As, ms, cs, W, Q, rfl, hBag, hfl, hwh, hB⟩
        have HBX2 : Sh (Blk w2 w.heap.size 46 #[.slice A0 l0.length c0, .slice A1 l1.length c1, .slice A2 l2.length c2, .slice A3 l3.length c3, .slice A4 l4.length c4, .slice A5 l5.length c5, .slice A6 l6.length c6]) := ⟨HBX1.out.kp (Kp.of_below hB []) (by simp)⟩
        have HB2 : Sh (Below w.heap.size w w2) := ⟨below_step HB1.out hB⟩
        obtain ⟨f0, f1, f2, f3, f4, f5, f6⟩ : w2.frozen? ⟨w.heap.size, 0, none⟩ = false ∧ w2.frozen? ⟨w.heap.size, 1, none⟩ = false ∧ w2.frozen? ⟨w.heap.size, 2, none⟩ = false ∧ w2.frozen? ⟨w.heap.size, 3, none⟩ = false ∧ w2.frozen? ⟨w.heap.size, 4, none⟩ = false ∧ w2.frozen? ⟨w.heap.size, 5, none⟩ = false ∧ w2.frozen? ⟨w.heap.size, 6, none⟩ = false := ⟨HBX2.out.frozen 0, HBX2.out.frozen 1, HBX2.out.frozen 2, HBX2.out.frozen 3, HBX2.out.frozen 4, HBX2.out.frozen 5, HBX2.out.frozen 6⟩
        obtain ⟨g0, g1, g2, g3, g4, g5, g6⟩ : w2.cell? ⟨w.heap.size, 0, none⟩ = some (.slice A0 l0.length c0) ∧ w2.cell? ⟨w.heap.size, 1, none⟩ = some (.slice A1 l1.length c1) ∧ w2.cell? ⟨w.heap.size, 2, none⟩ = some (.slice A2 l2.length c2) ∧ w2.cell? ⟨w.heap.size, 3, none⟩ = some (.slice A3 l3.length c3) ∧ w2.cell? ⟨w.heap.size, 4, none⟩ = some (.slice A4 l4.length c4) ∧ w2.cell? ⟨w.heap.size, 5, none⟩ = some (.slice A5 l5.length c5) ∧ w2.cell? ⟨w.heap.size, 6, none⟩ = some (.slice A6 l6.length c6) := ⟨(HBX2.out.cell 0).trans rfl, (HBX2.out.cell 1).trans rfl, (HBX2.out.cell 2).trans rfl, (HBX2.out.cell 3).trans rfl, (HBX2.out.cell 4).trans rfl, (HBX2.out.cell 5).trans rfl, (HBX2.out.cell 6).trans rfl⟩
        have t7 : 46 ≠ 58 := by decide
        have HST : Sh (∀ u0 u1 u2 u3 u4 u5 u6 : Value, Bag w1 (((((((w2.setCell ⟨w.heap.size, 0, none⟩ u0).setCell ⟨w.heap.size, 1, none⟩ u1).setCell ⟨w.heap.size, 2, none⟩ u2).setCell ⟨w.heap.size, 3, none⟩ u3).setCell ⟨w.heap.size, 4, none⟩ u4).setCell ⟨w.heap.size, 5, none⟩ u5).setCell ⟨w.heap.size, 6, none⟩ u6) As ms cs Q ∧ Blk (((((((w2.setCell ⟨w.heap.size, 0, none⟩ u0).setCell ⟨w.heap.size, 1, none⟩ u1).setCell ⟨w.heap.size, 2, none⟩ u2).setCell ⟨w.heap.size, 3, none⟩ u3).setCell ⟨w.heap.size, 4, none⟩ u4).setCell ⟨w.heap.size, 5, none⟩ u5).setCell ⟨w.heap.size, 6, none⟩ u6) w.heap.size 46 #[u0, u1, u2, u3, u4, u5, u6] ∧ Below w.heap.size w (((((((w2.setCell ⟨w.heap.size, 0, none⟩ u0).setCell ⟨w.heap.size, 1, none⟩ u1).setCell ⟨w.heap.size, 2, none⟩ u2).setCell ⟨w.heap.size, 3, none⟩ u3).setCell ⟨w.heap.size, 4, none⟩ u4).setCell ⟨w.heap.size, 5, none⟩ u5).setCell ⟨w.heap.size, 6, none⟩ u6)) := ⟨fun u0 u1 u2 u3 u4 u5 u6 => by
          have b0 := HBX2.out
          have b1 := b0.set_ 0 u0
          have b2 := b1.set_ 1 u1
          have b3 := b2.set_ 2 u2
          have b4 := b3.set_ 3 u3
          have b5 := b4.set_ 4 u4
          have b6 := b5.set_ 5 u5
          have b7 := b6.set_ 6 u6
          exact ⟨((((((hBag.put_ b0 t7 0 u0).put_ b1 t7 1 u1).put_ b2 t7 2 u2).put_ b3 t7 3 u3).put_ b4 t7 4 u4).put_ b5 t7 5 u5).put_ b6 t7 6 u6, b7, below_set (below_set (below_set (below_set (below_set (below_set (below_set HB2.out (Nat.le_refl _)) (Nat.le_refl _)) (Nat.le_refl _)) (Nat.le_refl _)) (Nat.le_refl _)) (Nat.le_refl _)) (Nat.le_refl _)⟩⟩
        have HLN : Sh (ms 0 = (sel 1 Q).length ∧ ms 1 = (sel 2 Q).length ∧ ms 2 = (sel 3 Q).length ∧ ms 3 = (sel 4 Q).length ∧ ms 4 = (sel 5 Q).length ∧ ms 5 = (sel 6 Q).length ∧ ms 6 = (sel 7 Q).length) := ⟨⟨(hBag.len 0).1, (hBag.len 1).1, (hBag.len 2).1, (hBag.len 3).1, (hBag.len 4).1, (hBag.len 5).1, (hBag.len 6).1⟩⟩
        go_wp2_with fail
        go_meet
        case rel => exact ⟨As 0, As 1, As 2, As 3, As 4, As 5, As 6, ms 0, ms 1, ms 2, ms 3, ms 4, ms 5, ms 6, cs 0, cs 1, cs 2, cs 3, cs 4, cs 5, cs 6, sel 1 Q, sel 2 Q, sel 3 Q, sel 4 Q, sel 5 Q, sel 6 Q, sel 7 Q, W, rfl, ⟨(HST.out (.slice (As 0) (ms 0) (cs 0)) (.slice (As 1) (ms 1) (cs 1)) (.slice (As 2) (ms 2) (cs 2)) (.slice (As 3) (ms 3) (cs 3)) (.slice (As 4) (ms 4) (cs 4)) (.slice (As 5) (ms 5) (cs 5)) (.slice (As 6) (ms 6) (cs 6))).1.seven⟩, ⟨(HST.out (.slice (As 0) (ms 0) (cs 0)) (.slice (As 1) (ms 1) (cs 1)) (.slice (As 2) (ms 2) (cs 2)) (.slice (As 3) (ms 3) (cs 3)) (.slice (As 4) (ms 4) (cs 4)) (.slice (As 5) (ms 5) (cs 5)) (.slice (As 6) (ms 6) (cs 6))).2.1⟩, HLN, ⟨hfl⟩, ⟨fun _ => hwh⟩, ⟨(HST.out (.slice (As 0) (ms 0) (cs 0)) (.slice (As 1) (ms 1) (cs 1)) (.slice (As 2) (ms 2) (cs 2)) (.slice (As 3) (ms 3) (cs 3)) (.slice (As 4) (ms 4) (cs 4)) (.slice (As 5) (ms 5) (cs 5)) (.slice (As 6) (ms 6) (cs 6))).2.2⟩⟩
    case rest =>
      clear HS HBX1 HB1 HMD HFL
      obtain ⟨X0, X1, X2, X3, X4, X5, X6, m0, m1, m2, m3, m4, m5, m6, e0, e1, e2, e3, e4, e5, e6, t0, t1, t2, t3, t4, t5, t6, W, rfl, HS1, HBXm, HLEN, HFL, HMW, HBm⟩ := hcut
      obtain ⟨wm, hwm⟩ : ∃ x, x = wc := ⟨_, rfl⟩
      subst hwm
      obtain ⟨q0, q1, q2, q3, q4, q5, q6⟩ : wm.cell? ⟨w.heap.size, 0, none⟩ = some (.slice X0 m0 e0) ∧ wm.cell? ⟨w.heap.size, 1, none⟩ = some (.slice X1 m1 e1) ∧ wm.cell? ⟨w.heap.size, 2, none⟩ = some (.slice X2 m2 e2) ∧ wm.cell? ⟨w.heap.size, 3, none⟩ = some (.slice X3 m3 e3) ∧ wm.cell? ⟨w.heap.size, 4, none⟩ = some (.slice X4 m4 e4) ∧ wm.cell? ⟨w.heap.size, 5, none⟩ = some (.slice X5 m5 e5) ∧ wm.cell? ⟨w.heap.size, 6, none⟩ = some (.slice X6 m6 e6) := ⟨(HBXm.out.cell 0).trans rfl, (HBXm.out.cell 1).trans rfl, (HBXm.out.cell 2).trans rfl, (HBXm.out.cell 3).trans rfl, (HBXm.out.cell 4).trans rfl, (HBXm.out.cell 5).trans rfl, (HBXm.out.cell 6).trans rfl⟩
      go_wp2_with fail
      clear q0 q1 q2 q3 q4 q5 q6
      have HALL : Sh (∀ V : World, Below wm.heap.size wm V → Calls Try.prog 30 #[.agg #[.slice X0 m0 e0, .slice X1 m1 e1, .slice X2 m2 e2, .slice X3 m3 e3, .slice X4 m4 e4, .slice X5 m5 e5, .slice X6 m6 e6]] V fun e w' => ∃ A c, e = .returned (.slice A (sortP (flat7 t0 t1 t2 t3 t4 t5 t6)).length c) ∧ (sortP (flat7 t0 t1 t2 t3 t4 t5 t6)).length ≤ c ∧ Kd.C k58 w' A (sortP (flat7 t0 t1 t2 t3 t4 t5 t6)).length (sortP (flat7 t0 t1 t2 t3 t4 t5 t6)) ∧ Below V.heap.size V w') := ⟨fun V hV => by
        have h := all_of (HS1.out.below hV) (by have := HFL.out; omega)
        rw [← HLEN.out.1, ← HLEN.out.2.1, ← HLEN.out.2.2.1, ← HLEN.out.2.2.2.1, ← HLEN.out.2.2.2.2.1, ← HLEN.out.2.2.2.2.2.1, ← HLEN.out.2.2.2.2.2.2] at h
        exact h⟩
      have HWHO : Sh (∀ V : World, Below wm.heap.size wm V → ∀ x : Int, Calls Try.prog 34 #[.agg #[.slice X0 m0 e0, .slice X1 m1 e1, .slice X2 m2 e2, .slice X3 m3 e3, .slice X4 m4 e4, .slice X5 m5 e5, .slice X6 m6 e6], .int .i64 x] V fun e w' => e = .returned (.bool (wh (sortP (flat7 t0 t1 t2 t3 t4 t5 t6)) 0 x)) ∧ Below V.heap.size V w') := ⟨fun V hV x => by
        have h := whole_of (HS1.out.below hV) (by have := HFL.out; omega) x
        rw [← HLEN.out.1, ← HLEN.out.2.1, ← HLEN.out.2.2.1, ← HLEN.out.2.2.2.1, ← HLEN.out.2.2.2.2.1, ← HLEN.out.2.2.2.2.2.1, ← HLEN.out.2.2.2.2.2.2] at h
        exact h⟩
      have HW0 : Sh (∀ V : World, Below wm.heap.size wm V → Calls Try.prog 36 #[.slice X0 m0 e0] V fun e w' => e = .returned (.int .i64 (ws t0)) ∧ Below V.heap.size V w') := ⟨fun V hV => by
        have h := words_of (HS1.out.below hV).h0 (by have h1 := HFL.out; rw [flat7_len] at h1; omega)
        rw [← HLEN.out.1] at h
        exact h⟩
      have HW1 : Sh (∀ V : World, Below wm.heap.size wm V → Calls Try.prog 36 #[.slice X1 m1 e1] V fun e w' => e = .returned (.int .i64 (ws t1)) ∧ Below V.heap.size V w') := ⟨fun V hV => by
        have h := words_of (HS1.out.below hV).h1 (by have h1 := HFL.out; rw [flat7_len] at h1; omega)
        rw [← HLEN.out.2.1] at h
        exact h⟩
      have HW2 : Sh (∀ V : World, Below wm.heap.size wm V → Calls Try.prog 36 #[.slice X2 m2 e2] V fun e w' => e = .returned (.int .i64 (ws t2)) ∧ Below V.heap.size V w') := ⟨fun V hV => by
        have h := words_of (HS1.out.below hV).h2 (by have h1 := HFL.out; rw [flat7_len] at h1; omega)
        rw [← HLEN.out.2.2.1] at h
        exact h⟩
      have HW3 : Sh (∀ V : World, Below wm.heap.size wm V → Calls Try.prog 36 #[.slice X3 m3 e3] V fun e w' => e = .returned (.int .i64 (ws t3)) ∧ Below V.heap.size V w') := ⟨fun V hV => by
        have h := words_of (HS1.out.below hV).h3 (by have h1 := HFL.out; rw [flat7_len] at h1; omega)
        rw [← HLEN.out.2.2.2.1] at h
        exact h⟩
      have HW4 : Sh (∀ V : World, Below wm.heap.size wm V → Calls Try.prog 36 #[.slice X4 m4 e4] V fun e w' => e = .returned (.int .i64 (ws t4)) ∧ Below V.heap.size V w') := ⟨fun V hV => by
        have h := words_of (HS1.out.below hV).h4 (by have h1 := HFL.out; rw [flat7_len] at h1; omega)
        rw [← HLEN.out.2.2.2.2.1] at h
        exact h⟩
      have HW5 : Sh (∀ V : World, Below wm.heap.size wm V → Calls Try.prog 36 #[.slice X5 m5 e5] V fun e w' => e = .returned (.int .i64 (ws t5)) ∧ Below V.heap.size V w') := ⟨fun V hV => by
        have h := words_of (HS1.out.below hV).h5 (by have h1 := HFL.out; rw [flat7_len] at h1; omega)
        rw [← HLEN.out.2.2.2.2.2.1] at h
        exact h⟩
      have HW6 : Sh (∀ V : World, Below wm.heap.size wm V → Calls Try.prog 36 #[.slice X6 m6 e6] V fun e w' => e = .returned (.int .i64 (ws t6)) ∧ Below V.heap.size V w') := ⟨fun V hV => by
        have h := words_of (HS1.out.below hV).h6 (by have h1 := HFL.out; rw [flat7_len] at h1; omega)
        rw [← HLEN.out.2.2.2.2.2.2] at h
        exact h⟩
      have HCELL : Sh (∀ V : World, Below wm.heap.size wm V → V.cell? ⟨w.heap.size, 0, none⟩ = some (.slice X0 m0 e0) ∧ V.cell? ⟨w.heap.size, 1, none⟩ = some (.slice X1 m1 e1) ∧ V.cell? ⟨w.heap.size, 2, none⟩ = some (.slice X2 m2 e2) ∧ V.cell? ⟨w.heap.size, 3, none⟩ = some (.slice X3 m3 e3) ∧ V.cell? ⟨w.heap.size, 4, none⟩ = some (.slice X4 m4 e4) ∧ V.cell? ⟨w.heap.size, 5, none⟩ = some (.slice X5 m5 e5) ∧ V.cell? ⟨w.heap.size, 6, none⟩ = some (.slice X6 m6 e6)) := ⟨fun V hV => by
        have h := HBXm.out.kp (Kp.of_below hV []) (by simp)
        exact ⟨(h.cell 0).trans rfl, (h.cell 1).trans rfl, (h.cell 2).trans rfl, (h.cell 3).trans rfl, (h.cell 4).trans rfl, (h.cell 5).trans rfl, (h.cell 6).trans rfl⟩⟩
      have HWB : Sh ((0 ≤ ws t0 ∧ ws t0 ≤ 2576980377600) ∧ (0 ≤ ws t1 ∧ ws t1 ≤ 2576980377600) ∧ (0 ≤ ws t2 ∧ ws t2 ≤ 2576980377600) ∧ (0 ≤ ws t3 ∧ ws t3 ≤ 2576980377600) ∧ (0 ≤ ws t4 ∧ ws t4 ≤ 2576980377600) ∧ (0 ≤ ws t5 ∧ ws t5 ≤ 2576980377600) ∧ (0 ≤ ws t6 ∧ ws t6 ≤ 2576980377600)) := ⟨by
        have h1 := HFL.out
        rw [flat7_len] at h1
        have b0 := ws_bd t0
        have b1 := ws_bd t1
        have b2 := ws_bd t2
        have b3 := ws_bd t3
        have b4 := ws_bd t4
        have b5 := ws_bd t5
        have b6 := ws_bd t6
        exact ⟨⟨b0.1, by omega⟩, ⟨b1.1, by omega⟩, ⟨b2.1, by omega⟩, ⟨b3.1, by omega⟩, ⟨b4.1, by omega⟩, ⟨b5.1, by omega⟩, ⟨b6.1, by omega⟩⟩⟩
      have HWSUM : Sh (∀ x, wh (sortP (flat7 t0 t1 t2 t3 t4 t5 t6)) 0 x = true → ws t0 + ws t1 + ws t2 + ws t3 + ws t4 + ws t5 + ws t6 = x) := ⟨fun x hx => by
        have h := (wh_sum x _ 0 hx).1
        rw [ws_perm (sortP_perm _), ws_flat] at h
        omega⟩
      obtain ⟨L, hL⟩ : ∃ L, L = sortP (flat7 t0 t1 t2 t3 t4 t5 t6) := ⟨_, rfl⟩
      have hLn : L.length ≤ 1200 := by rw [hL, sortP_length]; exact HFL.out
      rw [← hL] at HALL HWHO HWSUM HMW
      obtain ⟨n, hn⟩ : ∃ n, n = L.length := ⟨_, rfl⟩
      rw [← hn] at HALL hLn
      obtain ⟨x0, hx0⟩ : ∃ x, x = ws t0 := ⟨_, rfl⟩
      rw [← hx0] at HW0 HWB HWSUM
      obtain ⟨x1, hx1⟩ : ∃ x, x = ws t1 := ⟨_, rfl⟩
      rw [← hx1] at HW1 HWB HWSUM
      obtain ⟨x2, hx2⟩ : ∃ x, x = ws t2 := ⟨_, rfl⟩
      rw [← hx2] at HW2 HWB HWSUM
      obtain ⟨x3, hx3⟩ : ∃ x, x = ws t3 := ⟨_, rfl⟩
      rw [← hx3] at HW3 HWB HWSUM
      obtain ⟨x4, hx4⟩ : ∃ x, x = ws t4 := ⟨_, rfl⟩
      rw [← hx4] at HW4 HWB HWSUM
      obtain ⟨x5, hx5⟩ : ∃ x, x = ws t5 := ⟨_, rfl⟩
      rw [← hx5] at HW5 HWB HWSUM
      obtain ⟨x6, hx6⟩ : ∃ x, x = ws t6 := ⟨_, rfl⟩
      rw [← hx6] at HW6 HWB HWSUM
      have HNL := Sh.mk hn
      clear HS1 HFL HLEN hL hn hx0 hx1 hx2 hx3 hx4 hx5 hx6
      (with_reducible refine (HALL.out wm (Below.refl _ _)).mono ?_); rintro e w3 ⟨AL, cL, rfl, hcL, hCL, hb⟩
      have HB3 : Sh (Below wm.heap.size wm w3) := ⟨hb⟩
      have HCL := Sh.mk hCL
      clear hb hCL HALL
      obtain ⟨q0, q1, q2, q3, q4, q5, q6⟩ := HCELL.out w3 HB3.out
      go_wp2_with fail
      cases hwb : wh L 0 W with
      | false =>
        obtain rfl : made = false := by
          cases made with
          | false => rfl
          | true => exact absurd (HMW.out rfl) (by rw [hwb]; simp)
        (with_reducible refine (HWHO.out w3 HB3.out _).mono ?_); rintro e w4 ⟨rfl, hb⟩
        have HB4 : Sh (Below wm.heap.size wm w4) := ⟨below_step HB3.out hb⟩
        rw [hwb]
        clear hb HWHO
        go_wp2_with fail
        (with_reducible refine (HAW.out _).mono ?_); rintro e w6 ⟨rfl, hb⟩
        have HB6 : Sh (Below w.heap.size w w6) := ⟨below_step (below_step HBm.out HB4.out) hb⟩
        clear hb
        go_wp2
        go_ret
        exact ⟨rfl, HB6.out⟩
      | true =>
        (with_reducible refine (HWHO.out w3 HB3.out _).mono ?_); rintro e w4 ⟨rfl, hb⟩
        have HB4 : Sh (Below wm.heap.size wm w4) := ⟨below_step HB3.out hb⟩
        have H34 := Sh.mk hb
        rw [hwb]
        have HWT := Sh.mk hwb
        clear hb hwb q0 q1 q2 q3 q4 q5 q6
        have hwb := HWB.out
        have v1 : IntKind.i64.wrap (x0 + x1) = x0 + x1 := by rw [IntKind.wrap_i64]; omega
        have v2 : IntKind.i64.wrap (x0 + x1 + x2) = x0 + x1 + x2 := by rw [IntKind.wrap_i64]; omega
        have v3 : IntKind.i64.wrap (x0 + x1 + x2 + x3) = x0 + x1 + x2 + x3 := by rw [IntKind.wrap_i64]; omega
        have v4 : IntKind.i64.wrap (x0 + x1 + x2 + x3 + x4) = x0 + x1 + x2 + x3 + x4 := by rw [IntKind.wrap_i64]; omega
        have v5 : IntKind.i64.wrap (x0 + x1 + x2 + x3 + x4 + x5) = x0 + x1 + x2 + x3 + x4 + x5 := by rw [IntKind.wrap_i64]; omega
        have v6 : IntKind.i64.wrap (x0 + x1 + x2 + x3 + x4 + x5 + x6) = W := by rw [IntKind.wrap_i64]; have := HWSUM.out _ HWT.out; omega
        clear hwb
        have hp0 : ∀ p : Bel w4, p.u.cell? ⟨w.heap.size, 0, none⟩ = some (.slice X0 m0 e0) := fun p => (HCELL.out _ (below_step HB4.out p.h)).1
        have hp1 : ∀ p : Bel w4, p.u.cell? ⟨w.heap.size, 1, none⟩ = some (.slice X1 m1 e1) := fun p => (HCELL.out _ (below_step HB4.out p.h)).2.1
        have hp2 : ∀ p : Bel w4, p.u.cell? ⟨w.heap.size, 2, none⟩ = some (.slice X2 m2 e2) := fun p => (HCELL.out _ (below_step HB4.out p.h)).2.2.1
        have hp3 : ∀ p : Bel w4, p.u.cell? ⟨w.heap.size, 3, none⟩ = some (.slice X3 m3 e3) := fun p => (HCELL.out _ (below_step HB4.out p.h)).2.2.2.1
        have hp4 : ∀ p : Bel w4, p.u.cell? ⟨w.heap.size, 4, none⟩ = some (.slice X4 m4 e4) := fun p => (HCELL.out _ (below_step HB4.out p.h)).2.2.2.2.1
        have hp5 : ∀ p : Bel w4, p.u.cell? ⟨w.heap.size, 5, none⟩ = some (.slice X5 m5 e5) := fun p => (HCELL.out _ (below_step HB4.out p.h)).2.2.2.2.2.1
        have hp6 : ∀ p : Bel w4, p.u.cell? ⟨w.heap.size, 6, none⟩ = some (.slice X6 m6 e6) := fun p => (HCELL.out _ (below_step HB4.out p.h)).2.2.2.2.2.2
        have HBP : Sh (∀ p : Bel w4, Below wm.heap.size wm p.u) := ⟨fun p => below_step HB4.out p.h⟩
        go_wp2_with fail
        refine wp_region_below (by kernel_rfl) (by kernel_rfl) ?_
        repeat (go_big_quiet_step (first | (go_at_call 36; first | with_reducible refine Calls.bel_of (HW0.out _ (HBP.out _)) | with_reducible refine Calls.bel_of (HW1.out _ (HBP.out _)) | with_reducible refine Calls.bel_of (HW2.out _ (HBP.out _)) | with_reducible refine Calls.bel_of (HW3.out _ (HBP.out _)) | with_reducible refine Calls.bel_of (HW4.out _ (HBP.out _)) | with_reducible refine Calls.bel_of (HW5.out _ (HBP.out _)) | with_reducible refine Calls.bel_of (HW6.out _ (HBP.out _)))))
        refine wpQuiet_nil ?_
        intro _ hw'
        obtain ⟨p, hw''⟩ := hw'
        subst hw''
        have HB5 : Sh (Below wm.heap.size wm p.u) := ⟨HBP.out p⟩
        have HCL5a : Sh (Kd.C k58 p.u AL n L) := ⟨Kd.C_below (Kd.C_below HCL.out H34.out) p.h⟩
        generalize p.u = w5 at HB5 HCL5a ⊢
        clear v1 v2 v3 v4 v5 v6 hp0 hp1 hp2 hp3 hp4 hp5 hp6 HBP HB4 HW0 HW1 HW2 HW3 HW4 HW5 HW6 HWB HWSUM HWHO HCELL HMW
        have HCL5 : Sh (∀ V : World, Below w5.heap.size w5 V → Kd.C k58 V AL n L) := ⟨fun V hV => by
          exact Kd.C_below HCL5a.out hV⟩
        go_wp2
        have HBX7 : Sh (Blk (w5.alloc (.cells #[.slice none 0 0, .slice none 0 0, .slice none 0 0, .slice none 0 0, .slice none 0 0, .slice none 0 0, .slice none 0 0] 46)) w5.heap.size 46 #[.slice none 0 0, .slice none 0 0, .slice none 0 0, .slice none 0 0, .slice none 0 0, .slice none 0 0, .slice none 0 0]) := ⟨Blk.new w5 _ _⟩
        have HB7 : Sh (Below w5.heap.size w5 (w5.alloc (.cells #[.slice none 0 0, .slice none 0 0, .slice none 0 0, .slice none 0 0, .slice none 0 0, .slice none 0 0, .slice none 0 0] 46))) := ⟨below_alloc (Below.refl _ _) _⟩
        obtain ⟨gb, hgb⟩ : ∃ g, g = w5.heap.size := ⟨_, rfl⟩
        have HGB : Sh (w5.heap.size ≤ gb) := ⟨by omega⟩
        rw [← hgb] at HBX7 ⊢
        clear hgb
        go_loopw [11, 13] (fun av iv wr => ∃ (i : Nat) (a : Int) (Bs : Fin 7 → Option Addr) (ks ds : Fin 7 → Nat), iv = .int .i64 i ∧ av = .int .i64 a ∧ i ≤ n ∧ Sh (a = ws (L.take i)) ∧ Sh (Bag w5 wr Bs ks ds (bk L i)) ∧ Sh (Blk wr gb 46 #[.slice (Bs 0) (ks 0) (ds 0), .slice (Bs 1) (ks 1) (ds 1), .slice (Bs 2) (ks 2) (ds 2), .slice (Bs 3) (ks 3) (ds 3), .slice (Bs 4) (ks 4) (ds 4), .slice (Bs 5) (ks 5) (ds 5), .slice (Bs 6) (ks 6) (ds 6)]) ∧ Sh (Below w5.heap.size w5 wr)) (fun av iv _ => n - (intOf iv).toNat)
        case atStart => exact ⟨0, 0, fun _ => none, fun _ => 0, fun _ => 0, rfl, rfl, Nat.zero_le _, ⟨by simp [ws]⟩, ⟨Bag.none_ HB7.out.size⟩, HBX7, HB7⟩
        case round =>
          clear HBX7 HB7
          obtain ⟨i, a, Bs, ks, ds, rfl, rfl, hin, HA, HBG, HBK, HB⟩ := hrel
          by_cases hlt : i < n
          · obtain ⟨x, hx⟩ : ∃ x, L[i]? = some x := ⟨_, List.getElem?_eq_getElem (by have := HNL.out; omega)⟩
            obtain ⟨d, hd⟩ : ∃ d, d = n - 1 - i := ⟨_, rfl⟩
            obtain ⟨y, hy⟩ : ∃ y, L[d]? = some y := ⟨_, List.getElem?_eq_getElem (by have := HNL.out; omega)⟩
            obtain ⟨hx1, hx2, hx3⟩ := wh_at _ L 0 HWT.out i x hx
            have hxb := may_bd hx2
            obtain ⟨u, hu⟩ : ∃ u, u = x.f1 := ⟨_, rfl⟩
            have hxa : x.f0 = a := by rw [hx1, HA.out]; omega
            have HA2 : Sh (a + u = ws (L.take (i + 1))) := ⟨by rw [hx3, ← HA.out, hu]⟩
            obtain ⟨j, hj⟩ : ∃ j, j = 1 + (d : Int) % 7 := ⟨_, rfl⟩
            have hj7 : 1 ≤ j ∧ j ≤ 7 := by omega
            have HBK2 : Sh (bk L (i + 1) = bk L i ++ [(j, y)]) := ⟨by
              have h1 := HNL.out
              rw [bk, ← h1, ← hd, ← hj]
              simp [List.getD_eq_getElem?_getD, hy]⟩
            have hCr := HCL5.out wr HB.out
            obtain ⟨ad, rfl, cx0, cx1⟩ := at_T58 hCr (i : Int) (by omega) (by omega)
            obtain ⟨ad2, e2, cy0, cy1⟩ := at_T58 hCr (d : Int) (by omega) (by omega)
            obtain rfl : ad = ad2 := Option.some.inj e2
            have hrx : rd_T58 L (i : Int) = x := by simp [rd_T58, List.getD_eq_getElem?_getD, hx]
            have hry : rd_T58 L (d : Int) = y := by simp [rd_T58, List.getD_eq_getElem?_getD, hy]
            rw [hrx, Int.toNat_natCast] at cx0 cx1
            rw [hry, Int.toNat_natCast] at cy0 cy1
            rw [hxa] at cx0
            rw [← hu] at cx1
            obtain ⟨y0, hy0⟩ : ∃ y0, y0 = y.f0 := ⟨_, rfl⟩
            obtain ⟨y1, hy1⟩ : ∃ y1, y1 = y.f1 := ⟨_, rfl⟩
            rw [← hy0] at cy0
            rw [← hy1] at cy1
            have hws := wh_sum _ L 0 HWT.out
            have hwi := ws_bd (L.take i)
            have hwl : (L.take i).length ≤ 1200 := by rw [List.length_take]; have := HNL.out; omega
            rw [← HA.out] at hwi
            have v1 : IntKind.i64.wrap (a + u) = a + u := by rw [IntKind.wrap_i64]; omega
            have v2 : IntKind.i64.wrap ((n : Int) - 1) = (n : Int) - 1 := by rw [IntKind.wrap_i64]; omega
            have v3 : IntKind.i64.wrap ((n : Int) - 1 - (i : Int)) = (d : Int) := by rw [IntKind.wrap_i64]; omega
            have v4 : Int.tmod (d : Int) 7 = j - 1 := by rw [Int.tmod_eq_emod_of_nonneg (by omega)]; omega
            have v5 : IntKind.i64.wrap (1 + (j - 1)) = j := by rw [IntKind.wrap_i64]; omega
            have z1 : (d : Int) < (n : Int) := by omega
            have z2 : (i : Int) < (n : Int) := by omega
            have HPUT : Sh (∀ V : World, Below wr.heap.size wr V → Calls Try.prog 39 #[.agg #[.slice (Bs 0) (ks 0) (ds 0), .slice (Bs 1) (ks 1) (ds 1), .slice (Bs 2) (ks 2) (ds 2), .slice (Bs 3) (ks 3) (ds 3), .slice (Bs 4) (ks 4) (ds 4), .slice (Bs 5) (ks 5) (ds 5), .slice (Bs 6) (ks 6) (ds 6)], .int .i64 j, .agg #[.int .i64 y0, .int .i64 y1]] V fun e w' => ∃ (Bs' : Fin 7 → Option Addr) (ks' ds' : Fin 7 → Nat), e = .returned (.agg #[.slice (Bs' 0) (ks' 0) (ds' 0), .slice (Bs' 1) (ks' 1) (ds' 1), .slice (Bs' 2) (ks' 2) (ds' 2), .slice (Bs' 3) (ks' 3) (ds' 3), .slice (Bs' 4) (ks' 4) (ds' 4), .slice (Bs' 5) (ks' 5) (ds' 5), .slice (Bs' 6) (ks' 6) (ds' 6)]) ∧ Bag w5 w' Bs' ks' ds' (bk L (i + 1)) ∧ Below w5.heap.size w5 w' ∧ Blk w' gb 46 #[.slice (Bs 0) (ks 0) (ds 0), .slice (Bs 1) (ks 1) (ds 1), .slice (Bs 2) (ks 2) (ds 2), .slice (Bs 3) (ks 3) (ds 3), .slice (Bs 4) (ks 4) (ds 4), .slice (Bs 5) (ks 5) (ds 5), .slice (Bs 6) (ks 6) (ds 6)]) := ⟨fun V hV => by
              rw [hy0, hy1, HBK2.out]
              refine (put_bag w5 V Bs ks ds (bk L i) (HBG.out.below hV) (below_step HB.out hV) j y hj7 (by rw [bk_len]; omega)).mono ?_
              rintro e w' ⟨Bs', ks', ds', h1, h2, h3, h4⟩
              exact ⟨Bs', ks', ds', h1, h2, h3, h4 gb _ _ (HBK.out.kp (Kp.of_below hV []) (by simp)) ((HBG.out.below hV).of_type (HBK.out.kp (Kp.of_below hV []) (by simp)) (by decide))⟩⟩
            have hk : wr.cell? ⟨gb, 0, none⟩ = some (.slice (Bs 0) (ks 0) (ds 0)) ∧ wr.cell? ⟨gb, 1, none⟩ = some (.slice (Bs 1) (ks 1) (ds 1)) ∧ wr.cell? ⟨gb, 2, none⟩ = some (.slice (Bs 2) (ks 2) (ds 2)) ∧ wr.cell? ⟨gb, 3, none⟩ = some (.slice (Bs 3) (ks 3) (ds 3)) ∧ wr.cell? ⟨gb, 4, none⟩ = some (.slice (Bs 4) (ks 4) (ds 4)) ∧ wr.cell? ⟨gb, 5, none⟩ = some (.slice (Bs 5) (ks 5) (ds 5)) ∧ wr.cell? ⟨gb, 6, none⟩ = some (.slice (Bs 6) (ks 6) (ds 6)) := ⟨(HBK.out.cell 0).trans rfl, (HBK.out.cell 1).trans rfl, (HBK.out.cell 2).trans rfl, (HBK.out.cell 3).trans rfl, (HBK.out.cell 4).trans rfl, (HBK.out.cell 5).trans rfl, (HBK.out.cell 6).trans rfl⟩
            obtain ⟨k0, k1, k2, k3, k4, k5, k6⟩ := hk
            clear hx hd hy hx1 hx2 hx3 hxb hu hxa hj hj7 hCr hrx hry hy0 hy1 hws hwi hwl HA HBG HBK
            go_wp2_with fail
            go_region_with (first | (go_at_call 39; (with_reducible refine (HPUT.out _ (by first | exact (Below.refl _ _).drew | exact Below.refl _ _)).mono ?_); rintro e wq ⟨Bs', ks', ds', rfl, hbag, hbel, hblk⟩; have FR := Sh.mk (And.intro hbag (And.intro hbel hblk)); obtain ⟨f0, f1, f2, f3, f4, f5, f6⟩ := And.intro (hblk.frozen 0) (And.intro (hblk.frozen 1) (And.intro (hblk.frozen 2) (And.intro (hblk.frozen 3) (And.intro (hblk.frozen 4) (And.intro (hblk.frozen 5) (hblk.frozen 6)))))); obtain ⟨g0, g1, g2, g3, g4, g5, g6⟩ := And.intro (hblk.cell 0) (And.intro (hblk.cell 1) (And.intro (hblk.cell 2) (And.intro (hblk.cell 3) (And.intro (hblk.cell 4) (And.intro (hblk.cell 5) (hblk.cell 6)))))); clear hbag hbel hblk))
            all_goals
              have HNEXT : Sh (Bag w5 (((((((wq.setCell ⟨gb, 0, none⟩ (.slice (Bs' 0) (ks' 0) (ds' 0))).setCell ⟨gb, 1, none⟩ (.slice (Bs' 1) (ks' 1) (ds' 1))).setCell ⟨gb, 2, none⟩ (.slice (Bs' 2) (ks' 2) (ds' 2))).setCell ⟨gb, 3, none⟩ (.slice (Bs' 3) (ks' 3) (ds' 3))).setCell ⟨gb, 4, none⟩ (.slice (Bs' 4) (ks' 4) (ds' 4))).setCell ⟨gb, 5, none⟩ (.slice (Bs' 5) (ks' 5) (ds' 5))).setCell ⟨gb, 6, none⟩ (.slice (Bs' 6) (ks' 6) (ds' 6))) Bs' ks' ds' (bk L (i + 1)) ∧ Blk (((((((wq.setCell ⟨gb, 0, none⟩ (.slice (Bs' 0) (ks' 0) (ds' 0))).setCell ⟨gb, 1, none⟩ (.slice (Bs' 1) (ks' 1) (ds' 1))).setCell ⟨gb, 2, none⟩ (.slice (Bs' 2) (ks' 2) (ds' 2))).setCell ⟨gb, 3, none⟩ (.slice (Bs' 3) (ks' 3) (ds' 3))).setCell ⟨gb, 4, none⟩ (.slice (Bs' 4) (ks' 4) (ds' 4))).setCell ⟨gb, 5, none⟩ (.slice (Bs' 5) (ks' 5) (ds' 5))).setCell ⟨gb, 6, none⟩ (.slice (Bs' 6) (ks' 6) (ds' 6))) gb 46 #[.slice (Bs' 0) (ks' 0) (ds' 0), .slice (Bs' 1) (ks' 1) (ds' 1), .slice (Bs' 2) (ks' 2) (ds' 2), .slice (Bs' 3) (ks' 3) (ds' 3), .slice (Bs' 4) (ks' 4) (ds' 4), .slice (Bs' 5) (ks' 5) (ds' 5), .slice (Bs' 6) (ks' 6) (ds' 6)] ∧ Below w5.heap.size w5 (((((((wq.setCell ⟨gb, 0, none⟩ (.slice (Bs' 0) (ks' 0) (ds' 0))).setCell ⟨gb, 1, none⟩ (.slice (Bs' 1) (ks' 1) (ds' 1))).setCell ⟨gb, 2, none⟩ (.slice (Bs' 2) (ks' 2) (ds' 2))).setCell ⟨gb, 3, none⟩ (.slice (Bs' 3) (ks' 3) (ds' 3))).setCell ⟨gb, 4, none⟩ (.slice (Bs' 4) (ks' 4) (ds' 4))).setCell ⟨gb, 5, none⟩ (.slice (Bs' 5) (ks' 5) (ds' 5))).setCell ⟨gb, 6, none⟩ (.slice (Bs' 6) (ks' 6) (ds' 6)))) := ⟨by
                obtain ⟨hbag, hbel, b0⟩ := FR.out
                have t7 : 46 ≠ 58 := by decide
                have hg := HGB.out
                have b1 := b0.set_ 0 (.slice (Bs' 0) (ks' 0) (ds' 0))
                have b2 := b1.set_ 1 (.slice (Bs' 1) (ks' 1) (ds' 1))
                have b3 := b2.set_ 2 (.slice (Bs' 2) (ks' 2) (ds' 2))
                have b4 := b3.set_ 3 (.slice (Bs' 3) (ks' 3) (ds' 3))
                have b5 := b4.set_ 4 (.slice (Bs' 4) (ks' 4) (ds' 4))
                have b6 := b5.set_ 5 (.slice (Bs' 5) (ks' 5) (ds' 5))
                have b7 := b6.set_ 6 (.slice (Bs' 6) (ks' 6) (ds' 6))
                exact ⟨((((((hbag.put_ b0 t7 0 _).put_ b1 t7 1 _).put_ b2 t7 2 _).put_ b3 t7 3 _).put_ b4 t7 4 _).put_ b5 t7 5 _).put_ b6 t7 6 _, b7, below_set (below_set (below_set (below_set (below_set (below_set (below_set hbel hg) hg) hg) hg) hg) hg) hg⟩⟩
              go_wp2
              go_roundw
              case measure => simp [intOf]; omega
              case rel => exact ⟨i + 1, a + u, Bs', ks', ds', by go_num, rfl, by omega, HA2, ⟨HNEXT.out.1⟩, ⟨HNEXT.out.2.1⟩, ⟨HNEXT.out.2.2⟩⟩
          · obtain rfl : i = n := by omega
            have haw : a = W := by
              have h1 := (wh_sum _ L 0 HWT.out).1
              rw [HA.out, List.take_of_length_le (by have := HNL.out; omega)]
              omega
            have HWB2 : Sh (∀ V : World, Below wr.heap.size wr V → Calls Try.prog 34 #[.agg #[.slice (Bs 0) (ks 0) (ds 0), .slice (Bs 1) (ks 1) (ds 1), .slice (Bs 2) (ks 2) (ds 2), .slice (Bs 3) (ks 3) (ds 3), .slice (Bs 4) (ks 4) (ds 4), .slice (Bs 5) (ks 5) (ds 5), .slice (Bs 6) (ks 6) (ds 6)], .int .i64 a] V fun e w' => e = .returned (.bool true) ∧ Below V.heap.size V w') := ⟨fun V hV => by
              have h := whole_bag w5 V Bs ks ds _ (HBG.out.below hV) (by rw [flatS_len _ (bk_in L _), bk_len]; omega) a
              rw [HNL.out, bk_sort HWT.out, haw, HWT.out] at h
              rw [haw]
              exact h⟩
            have HFB : Sh (Below w.heap.size w wr) := ⟨below_step (below_step HBm.out HB5.out) HB.out⟩
            have hk : wr.cell? ⟨gb, 0, none⟩ = some (.slice (Bs 0) (ks 0) (ds 0)) ∧ wr.cell? ⟨gb, 1, none⟩ = some (.slice (Bs 1) (ks 1) (ds 1)) ∧ wr.cell? ⟨gb, 2, none⟩ = some (.slice (Bs 2) (ks 2) (ds 2)) ∧ wr.cell? ⟨gb, 3, none⟩ = some (.slice (Bs 3) (ks 3) (ds 3)) ∧ wr.cell? ⟨gb, 4, none⟩ = some (.slice (Bs 4) (ks 4) (ds 4)) ∧ wr.cell? ⟨gb, 5, none⟩ = some (.slice (Bs 5) (ks 5) (ds 5)) ∧ wr.cell? ⟨gb, 6, none⟩ = some (.slice (Bs 6) (ks 6) (ds 6)) := ⟨(HBK.out.cell 0).trans rfl, (HBK.out.cell 1).trans rfl, (HBK.out.cell 2).trans rfl, (HBK.out.cell 3).trans rfl, (HBK.out.cell 4).trans rfl, (HBK.out.cell 5).trans rfl, (HBK.out.cell 6).trans rfl⟩
            obtain ⟨k0, k1, k2, k3, k4, k5, k6⟩ := hk
            subst haw
            clear HA HBG HBK
            go_wp2_with fail
            (with_reducible refine (HWB2.out wr (Below.refl _ _)).mono ?_); rintro e w6 ⟨rfl, hb⟩
            have HB6 : Sh (Below w.heap.size w w6) := ⟨below_step HFB.out hb⟩
            clear hb
            go_wp2_with fail
            (with_reducible refine (HAW.out _).mono ?_); rintro e w7 ⟨rfl, hb⟩
            have HB7 : Sh (Below w.heap.size w w7) := ⟨below_step HB6.out hb⟩
            clear hb
            go_wp2
            go_ret
            exact ⟨rfl, HB7.out⟩
end Go.Proofs.Ythbknmblehecaaa
