/- PartTurned's walk: with one piece more, one less, one moved, one longer or shorter, they are not whole. No statement is proved here. -/
import Derived.Test.YthbknmblehecaaaBag
import Derived.Test.YthbknmblehecaaaTurnedPure
import Derived.Deep.DeepCutAuto
namespace Go.Proofs.Ythbknmblehecaaa
set_option linter.unusedVariables false
set_option linter.unusedSimpArgs false
open Go.RowKit Go.Proofs.YthbknmblehecaaaW.PrintWords Go.Proofs.YthbknmblehecaaaW.PrintLast Go.Proofs.YthbknmblehecaaaW.PrintMore Pr Go.Proofs.Ythbknmblehecaaa.Pure

theorem all_bag (w0 W : World) (As : Fin 7 → Option Addr) (ns cs : Fin 7 → Nat) (Q : List (Int × Pc)) (h : Bag w0 W As ns cs Q) (hl : (flatS Q).length ≤ 100000) :
    Calls Try.prog 30 #[.agg #[.slice (As 0) (ns 0) (cs 0), .slice (As 1) (ns 1) (cs 1), .slice (As 2) (ns 2) (cs 2), .slice (As 3) (ns 3) (cs 3), .slice (As 4) (ns 4) (cs 4), .slice (As 5) (ns 5) (cs 5), .slice (As 6) (ns 6) (cs 6)]] W fun e w' => ∃ A c, e = .returned (.slice A (sortP (flatS Q)).length c) ∧ (sortP (flatS Q)).length ≤ c ∧ Kd.C k58 w' A (sortP (flatS Q)).length (sortP (flatS Q)) ∧ Below W.heap.size W w' := by
  have hn := fun i => (h.len i).1
  have h' := h.seven
  rw [hn 0, hn 1, hn 2, hn 3, hn 4, hn 5, hn 6]
  refine (part_All.calls (As 0) (cs 0) (sel 1 Q) (As 1) (cs 1) (sel 2 Q) (As 2) (cs 2) (sel 3 Q) (As 3) (cs 3) (sel 4 Q) (As 4) (cs 4) (sel 5 Q) (As 5) (cs 5) (sel 6 Q) (As 6) (cs 6) (sel 7 Q) _ W h'.h0.1 h'.h0.2 h'.h1.1 h'.h1.2 h'.h2.1 h'.h2.2 h'.h3.1 h'.h3.2 h'.h4.1 h'.h4.2 h'.h5.1 h'.h5.2 h'.h6.1 h'.h6.2 (all_f hl)).mono ?_
  rintro e w' ⟨v, rfl, hR, hB⟩
  obtain ⟨A, c, rfl, hc, hC⟩ := Kd.R_reads hR
  exact ⟨A, c, rfl, hc, hC, hB⟩
set_option maxHeartbeats 4000000 in
/-- The seven rows stored where seven rows stood. -/
theorem bag_stored {w0 W : World} {As : Fin 7 → Option Addr} {ns cs : Fin 7 → Nat} {Q : List (Int × Pc)} (h : Bag w0 W As ns cs Q) (hb : Below w0.heap.size w0 W) {g : Nat} {a0 a1 a2 a3 a4 a5 a6 : Value} (b0 : Blk W g 46 #[a0, a1, a2, a3, a4, a5, a6]) (hg : w0.heap.size ≤ g) :
    Bag w0 (((((((W.setCell ⟨g, 0, none⟩ (.slice (As 0) (ns 0) (cs 0))).setCell ⟨g, 1, none⟩ (.slice (As 1) (ns 1) (cs 1))).setCell ⟨g, 2, none⟩ (.slice (As 2) (ns 2) (cs 2))).setCell ⟨g, 3, none⟩ (.slice (As 3) (ns 3) (cs 3))).setCell ⟨g, 4, none⟩ (.slice (As 4) (ns 4) (cs 4))).setCell ⟨g, 5, none⟩ (.slice (As 5) (ns 5) (cs 5))).setCell ⟨g, 6, none⟩ (.slice (As 6) (ns 6) (cs 6))) As ns cs Q ∧ Blk (((((((W.setCell ⟨g, 0, none⟩ (.slice (As 0) (ns 0) (cs 0))).setCell ⟨g, 1, none⟩ (.slice (As 1) (ns 1) (cs 1))).setCell ⟨g, 2, none⟩ (.slice (As 2) (ns 2) (cs 2))).setCell ⟨g, 3, none⟩ (.slice (As 3) (ns 3) (cs 3))).setCell ⟨g, 4, none⟩ (.slice (As 4) (ns 4) (cs 4))).setCell ⟨g, 5, none⟩ (.slice (As 5) (ns 5) (cs 5))).setCell ⟨g, 6, none⟩ (.slice (As 6) (ns 6) (cs 6))) g 46 #[.slice (As 0) (ns 0) (cs 0), .slice (As 1) (ns 1) (cs 1), .slice (As 2) (ns 2) (cs 2), .slice (As 3) (ns 3) (cs 3), .slice (As 4) (ns 4) (cs 4), .slice (As 5) (ns 5) (cs 5), .slice (As 6) (ns 6) (cs 6)] ∧ Below w0.heap.size w0 (((((((W.setCell ⟨g, 0, none⟩ (.slice (As 0) (ns 0) (cs 0))).setCell ⟨g, 1, none⟩ (.slice (As 1) (ns 1) (cs 1))).setCell ⟨g, 2, none⟩ (.slice (As 2) (ns 2) (cs 2))).setCell ⟨g, 3, none⟩ (.slice (As 3) (ns 3) (cs 3))).setCell ⟨g, 4, none⟩ (.slice (As 4) (ns 4) (cs 4))).setCell ⟨g, 5, none⟩ (.slice (As 5) (ns 5) (cs 5))).setCell ⟨g, 6, none⟩ (.slice (As 6) (ns 6) (cs 6))) ∧ ∀ (k : Nat) (t : TypeId) (cells : Array Value), k ≠ g → Blk W k t cells → Blk (((((((W.setCell ⟨g, 0, none⟩ (.slice (As 0) (ns 0) (cs 0))).setCell ⟨g, 1, none⟩ (.slice (As 1) (ns 1) (cs 1))).setCell ⟨g, 2, none⟩ (.slice (As 2) (ns 2) (cs 2))).setCell ⟨g, 3, none⟩ (.slice (As 3) (ns 3) (cs 3))).setCell ⟨g, 4, none⟩ (.slice (As 4) (ns 4) (cs 4))).setCell ⟨g, 5, none⟩ (.slice (As 5) (ns 5) (cs 5))).setCell ⟨g, 6, none⟩ (.slice (As 6) (ns 6) (cs 6))) k t cells := by
  have t7 : 46 ≠ 58 := by decide
  have b1 := b0.set_ 0 (.slice (As 0) (ns 0) (cs 0))
  have b2 := b1.set_ 1 (.slice (As 1) (ns 1) (cs 1))
  have b3 := b2.set_ 2 (.slice (As 2) (ns 2) (cs 2))
  have b4 := b3.set_ 3 (.slice (As 3) (ns 3) (cs 3))
  have b5 := b4.set_ 4 (.slice (As 4) (ns 4) (cs 4))
  have b6 := b5.set_ 5 (.slice (As 5) (ns 5) (cs 5))
  have b7 := b6.set_ 6 (.slice (As 6) (ns 6) (cs 6))
  exact ⟨((((((h.put_ b0 t7 0 _).put_ b1 t7 1 _).put_ b2 t7 2 _).put_ b3 t7 3 _).put_ b4 t7 4 _).put_ b5 t7 5 _).put_ b6 t7 6 _, b7, below_set (below_set (below_set (below_set (below_set (below_set (below_set hb hg) hg) hg) hg) hg) hg) hg, fun k t cells hk hB => ((((((hB.far hk _).far hk _).far hk _).far hk _).far hk _).far hk _).far hk _⟩
theorem Bag.far {w0 W : World} {As : Fin 7 → Option Addr} {ns cs : Fin 7 → Nat} {Q : List (Int × Pc)} (h : Bag w0 W As ns cs Q) {g : Nat} (hg : ∀ i, (Value.slice (As i) (ns i) (cs i)).ownBlock ≠ some g) (j : Nat) (u : Value) : Bag w0 (W.setCell ⟨g, j, none⟩ u) As ns cs Q :=
  ⟨fun i => Kd.R_mono (Kd.R_far (p := ⟨g, j, none⟩) (Kd.R_tight rfl (h.r i)) (fun k hk => by show k ≠ g; rintro rfl; exact hg i hk.symm) u) (fun _ _ => trivial), h.d⟩
theorem put_keep (w0 W : World) (As : Fin 7 → Option Addr) (ns cs : Fin 7 → Nat) (Q : List (Int × Pc)) (h : Bag w0 W As ns cs Q) (hB : Below w0.heap.size w0 W) {g : Nat} (hk : Blk W g 46 #[.slice (As 0) (ns 0) (cs 0), .slice (As 1) (ns 1) (cs 1), .slice (As 2) (ns 2) (cs 2), .slice (As 3) (ns 3) (cs 3), .slice (As 4) (ns 4) (cs 4), .slice (As 5) (ns 5) (cs 5), .slice (As 6) (ns 6) (cs 6)]) (j : Int) (x : Pc) (hj : 1 ≤ j ∧ j ≤ 7) (hQ : Q.length ≤ 100000) :
    Calls Try.prog 39 #[.agg #[.slice (As 0) (ns 0) (cs 0), .slice (As 1) (ns 1) (cs 1), .slice (As 2) (ns 2) (cs 2), .slice (As 3) (ns 3) (cs 3), .slice (As 4) (ns 4) (cs 4), .slice (As 5) (ns 5) (cs 5), .slice (As 6) (ns 6) (cs 6)], .int .i64 j, .agg #[.int .i64 x.f0, .int .i64 x.f1]] W fun e w' => ∃ (As' : Fin 7 → Option Addr) (ns' cs' : Fin 7 → Nat), e = .returned (.agg #[.slice (As' 0) (ns' 0) (cs' 0), .slice (As' 1) (ns' 1) (cs' 1), .slice (As' 2) (ns' 2) (cs' 2), .slice (As' 3) (ns' 3) (cs' 3), .slice (As' 4) (ns' 4) (cs' 4), .slice (As' 5) (ns' 5) (cs' 5), .slice (As' 6) (ns' 6) (cs' 6)]) ∧ Sh (Bag w0 w' As' ns' cs' (Q ++ [(j, x)])) ∧ Sh (Below w0.heap.size w0 w') ∧ Sh (Blk w' g 46 #[.slice (As 0) (ns 0) (cs 0), .slice (As 1) (ns 1) (cs 1), .slice (As 2) (ns 2) (cs 2), .slice (As 3) (ns 3) (cs 3), .slice (As 4) (ns 4) (cs 4), .slice (As 5) (ns 5) (cs 5), .slice (As 6) (ns 6) (cs 6)]) ∧ Sh (∀ (q : Nat) (t : TypeId) (cells : Array Value), Blk W q t cells → (∀ i, (Value.slice (As i) (ns i) (cs i)).ownBlock ≠ some q) → Blk w' q t cells) := by
  refine (put_bag w0 W As ns cs Q h hB j x hj hQ).mono ?_
  rintro e w' ⟨Bs', ks', ds', h1, h2, h3, h4⟩
  exact ⟨Bs', ks', ds', h1, ⟨h2⟩, ⟨h3⟩, ⟨h4 g _ _ hk (h.of_type hk (by decide))⟩, ⟨h4⟩⟩

set_option maxRecDepth 100000 in
set_option maxHeartbeats 16000000 in
theorem partTurned_any (A : Option Addr) (c : Nat) (ns : List Int) (which by_ how : Int) (w : World) (hr : Kd.C (Kd.int .u8) w A ns.length ns) (hc : ns.length ≤ c) (hw : ∀ x ∈ ns, (Lit.int .u8 x).wf = true) (hy : ns.length * 1 ≤ 140737488351232) (hwb : 0 ≤ which ∧ which ≤ 255) (hby : -128 ≤ by_ ∧ by_ ≤ 127) (hho : 0 ≤ how ∧ how ≤ 255) :
    Calls Try.prog 11 #[.slice A ns.length c, .int .u8 which, .int .i8 by_, .int .u8 how] w fun e w' => e = .returned (.bool true) ∧ Below w.heap.size w w' := by
  have hu46 := Try.underlying46
  have hu58 := Try.underlying58
  have hcont : cont (pcs ns) 0 := pcsN_cont ns (fun i => (rd_u8 hw i).1) _ _ _
  have hlen : (pcs ns).length = min (ns.length / 2) 100 := by unfold pcs; rw [pcsN_len]
  have hend := endP_ge (pcs ns) 0 hcont
  have HM := Sh.mk (made_bag A c ns w hr hc hw hy)
  have HAW : Sh (∀ V : World, Calls Try.prog 28 #[] V fun e w' => e = .returned (.bool true) ∧ Below V.heap.size V w') := ⟨fun V => awake_any V⟩
  obtain ⟨N, hN⟩ : ∃ N, N = ns.length := ⟨_, rfl⟩
  obtain ⟨W, hW⟩ : ∃ W, W = endP (pcs ns) 0 := ⟨_, rfl⟩
  obtain ⟨Q0, hQ0⟩ : ∃ Q, Q = pcs ns := ⟨_, rfl⟩
  obtain ⟨L, hL⟩ : ∃ L, L = (pcs ns).map (·.2) := ⟨_, rfl⟩
  obtain ⟨n, hn⟩ : ∃ n, n = L.length := ⟨_, rfl⟩
  have hnN : n = min (N / 2) 100 := by rw [hn, hL, List.length_map, hlen, hN]
  have HSRT : Sh (sortP (flatS Q0) = L) := ⟨by rw [hQ0, hL]; exact flatS_sort hcont⟩
  have HFL : Sh ((flatS Q0).length ≤ 100000) := ⟨by rw [hQ0, flatS_len _ (fun p hp => (cont_ge _ _ hcont p hp).2.2.2)]; omega⟩
  have HWH : Sh (wh L 0 W = true) := ⟨by
    rw [hL, wh_cont (pcs ns) _ 0 (Int.le_refl 0) (by omega) hcont, hW]
    simp
    omega⟩
  have HLB : Sh (∀ i, i < n → ∃ f0 f1 : Int, L[i]? = some ⟨f0, f1⟩ ∧ 0 ≤ f0 ∧ f0 ≤ 4000 ∧ 1 ≤ f1 ∧ f1 ≤ 40) := ⟨fun i hi => by
    have hm : L[i]'(by omega) ∈ (pcs ns).map (·.2) := hL ▸ List.getElem_mem _
    obtain ⟨p, hp, hpe⟩ := List.mem_map.1 hm
    have hg := cont_ge _ _ hcont p hp
    refine ⟨p.2.f0, p.2.f1, ?_, by omega, by omega, by omega, by omega⟩
    rw [List.getElem?_eq_getElem (by omega), ← hpe]⟩
  have HNL := Sh.mk hn
  have hn100 : n ≤ 100 := by omega
  have hN2 : N ≤ 140737488351232 := by omega
  have HNN := Sh.mk hnN
  rw [← hN] at hc ⊢
  rw [← hN, ← hW, ← hQ0] at HM
  clear hr hw hy hcont hlen hend hN hW hQ0 hL hn
  have HK : Sh (0 < n → ∃ k : Nat, Int.tmod which (n : Int) = (k : Int) ∧ k < n) := ⟨fun h => ⟨(which % (n : Int)).toNat, by
    rw [Int.tmod_eq_emod_of_nonneg (by omega)]
    have := Int.emod_nonneg which (show (n : Int) ≠ 0 by omega)
    omega, by
    have := Int.emod_nonneg which (show (n : Int) ≠ 0 by omega)
    have := Int.emod_lt_of_pos which (show (0 : Int) < (n : Int) by omega)
    omega⟩⟩
  obtain ⟨d, hd⟩ : ∃ d, d = if by_ = 0 then 1 else by_ := ⟨_, rfl⟩
  have hd0 : d ≠ 0 := by rw [hd]; split <;> omega
  have hdb : -128 ≤ d ∧ d ≤ 127 := by rw [hd]; split <;> omega
  have HD0 := Sh.mk hd0
  have HDD := Sh.mk hd
  have c1 : IntKind.i64.wrap which = which := by rw [IntKind.wrap_i64]; omega
  have c2 : IntKind.i64.wrap by_ = by_ := by rw [IntKind.wrap_i64]; omega
  clear hnN hd hd0
  go_enter Try.func11, Try.ntmps11
  go_wp2_with fail
  (with_reducible refine HM.out.mono ?_); rintro e w1 ⟨As, ms, cs, rfl, hBag, hB⟩
  have HBG0 := Sh.mk hBag
  have HB0 := Sh.mk hB
  obtain ⟨gp, hgp⟩ : ∃ g, g = w1.heap.size := ⟨_, rfl⟩
  have HBX : Sh (Blk (w1.alloc (.cells #[.slice (As 0) (ms 0) (cs 0), .slice (As 1) (ms 1) (cs 1), .slice (As 2) (ms 2) (cs 2), .slice (As 3) (ms 3) (cs 3), .slice (As 4) (ms 4) (cs 4), .slice (As 5) (ms 5) (cs 5), .slice (As 6) (ms 6) (cs 6)] 46)) gp 46 #[.slice (As 0) (ms 0) (cs 0), .slice (As 1) (ms 1) (cs 1), .slice (As 2) (ms 2) (cs 2), .slice (As 3) (ms 3) (cs 3), .slice (As 4) (ms 4) (cs 4), .slice (As 5) (ms 5) (cs 5), .slice (As 6) (ms 6) (cs 6)]) := ⟨Blk.new_ w1 _ _ hgp⟩
  have HB1 : Sh (Below w1.heap.size w1 (w1.alloc (.cells #[.slice (As 0) (ms 0) (cs 0), .slice (As 1) (ms 1) (cs 1), .slice (As 2) (ms 2) (cs 2), .slice (As 3) (ms 3) (cs 3), .slice (As 4) (ms 4) (cs 4), .slice (As 5) (ms 5) (cs 5), .slice (As 6) (ms 6) (cs 6)] 46))) := ⟨below_alloc (Below.refl _ _) _⟩
  have HALL : Sh (∀ V : World, Below w1.heap.size w1 V → Calls Try.prog 30 #[.agg #[.slice (As 0) (ms 0) (cs 0), .slice (As 1) (ms 1) (cs 1), .slice (As 2) (ms 2) (cs 2), .slice (As 3) (ms 3) (cs 3), .slice (As 4) (ms 4) (cs 4), .slice (As 5) (ms 5) (cs 5), .slice (As 6) (ms 6) (cs 6)]] V fun e w' => ∃ A c, e = .returned (.slice A n c) ∧ n ≤ c ∧ Kd.C k58 w' A n L ∧ Below V.heap.size V w') := ⟨fun V hV => by
    have h := all_bag w V As ms cs Q0 (HBG0.out.below hV) HFL.out
    rw [HSRT.out, ← HNL.out] at h
    exact h⟩
  have HWP : Sh (∀ V : World, Below w1.heap.size w1 V → Calls Try.prog 34 #[.agg #[.slice (As 0) (ms 0) (cs 0), .slice (As 1) (ms 1) (cs 1), .slice (As 2) (ms 2) (cs 2), .slice (As 3) (ms 3) (cs 3), .slice (As 4) (ms 4) (cs 4), .slice (As 5) (ms 5) (cs 5), .slice (As 6) (ms 6) (cs 6)], .int .i64 W] V fun e w' => e = .returned (.bool true) ∧ Below V.heap.size V w') := ⟨fun V hV => by
    have h := whole_bag w V As ms cs Q0 (HBG0.out.below hV) HFL.out W
    rw [HSRT.out, HWH.out] at h
    exact h⟩
  clear hBag hB HBG0
  go_wp2_with fail
  (with_reducible refine (HALL.out _ HB1.out).mono ?_); rintro e w2 ⟨AL, cL, rfl, hcL, hCL, hb⟩
  have HB2 : Sh (Below w1.heap.size w1 w2) := ⟨below_step HB1.out hb⟩
  have HBX2 : Sh (Blk w2 gp 46 #[.slice (As 0) (ms 0) (cs 0), .slice (As 1) (ms 1) (cs 1), .slice (As 2) (ms 2) (cs 2), .slice (As 3) (ms 3) (cs 3), .slice (As 4) (ms 4) (cs 4), .slice (As 5) (ms 5) (cs 5), .slice (As 6) (ms 6) (cs 6)]) := ⟨HBX.out.kp (Kp.of_below hb []) (by simp)⟩
  have HCL := Sh.mk hCL
  rw [← hgp]
  clear hb hCL HBX HB1 HALL hgp
  obtain ⟨m, hm⟩ : ∃ m : Nat, m = N / 2 := ⟨_, rfl⟩
  have hq : Int.tdiv (N : Int) 2 = (m : Int) := by rw [Int.tdiv_eq_ediv_of_nonneg (by omega)]; omega
  have HV0 : Sh (wrap64 (m : Int) = (m : Int)) := ⟨by unfold wrap64; omega⟩
  have HMM := Sh.mk hm
  clear hm
  go_upto_region 3 with fail
  go_cut [39] (fun s39 wx => s39 = .bool (decide (n = 0)) ∧ wx = w2)
  case first =>
    have hmm := HMM.out
    have hnn := HNN.out
    by_cases h0 : n = 0
    · have bz : ((n : Int) == 0) = true := beq_iff_eq.2 (by omega)
      clear hmm hnn
      have v0 := HV0.out
      go_wp2_with fail
      go_meet
      case rel => exact ⟨by rw [decide_eq_true h0], rfl⟩
    · have bz : ((n : Int) == 0) = false := beq_eq_false_iff_ne.2 (by omega)
      by_cases h1 : n = m
      · have be : ((n : Int) == (m : Int)) = true := beq_iff_eq.2 (by omega)
        have bn : ((n : Int) != (m : Int)) = false := by rw [bne, be]; rfl
        clear hmm hnn h1
        have v0 := HV0.out
        go_wp2_with fail
        go_meet
        case rel => exact ⟨by rw [decide_eq_false h0], rfl⟩
      · have be : ((n : Int) == (m : Int)) = false := beq_eq_false_iff_ne.2 (by omega)
        have bn : ((n : Int) != (m : Int)) = true := by rw [bne, be]; rfl
        have ce : ((n : Int) == 100) = true := beq_iff_eq.2 (by omega)
        have cn : ((n : Int) != 100) = false := by rw [bne, ce]; rfl
        clear hmm hnn h1
        have v0 := HV0.out
        go_wp2_with fail
        go_meet
        case rel => exact ⟨by rw [decide_eq_false h0], rfl⟩
  case rest =>
  obtain ⟨rfl, rfl⟩ := hcut
  obtain ⟨wm, hwm⟩ : ∃ x, x = wc := ⟨_, rfl⟩
  subst hwm
  by_cases h0 : n = 0
  · have hd : decide (n = 0) = true := decide_eq_true h0
    have hN0 : (N : Int) < 2 := by have := HNN.out; omega
    go_wp2_with fail
    (with_reducible refine (HAW.out _).mono ?_); rintro e w6 ⟨rfl, hb⟩
    have HB6 : Sh (Below w.heap.size w w6) := ⟨below_step (below_step HB0.out HB2.out) hb⟩
    clear hb
    go_wp2
    go_ret
    exact ⟨rfl, HB6.out⟩
  · have hd : decide (n = 0) = false := decide_eq_false h0
    obtain ⟨k, hk, hkn⟩ := HK.out (by omega)
    have hk2 : which % (n : Int) = (k : Int) := by rw [← hk, Int.tmod_eq_emod_of_nonneg (by omega)]
    have hz : ¬ (n : Int) = 0 := by omega
    clear hq HV0
    have HBX7 : Sh (Blk (wm.alloc (.cells #[.slice none 0 0, .slice none 0 0, .slice none 0 0, .slice none 0 0, .slice none 0 0, .slice none 0 0, .slice none 0 0] 46)) wm.heap.size 46 #[.slice none 0 0, .slice none 0 0, .slice none 0 0, .slice none 0 0, .slice none 0 0, .slice none 0 0, .slice none 0 0]) := ⟨Blk.new wm _ _⟩
    have HB7 : Sh (Below wm.heap.size wm (wm.alloc (.cells #[.slice none 0 0, .slice none 0 0, .slice none 0 0, .slice none 0 0, .slice none 0 0, .slice none 0 0, .slice none 0 0] 46))) := ⟨below_alloc (Below.refl _ _) _⟩
    obtain ⟨gb, hgb⟩ : ∃ g, g = wm.heap.size := ⟨_, rfl⟩
    have HGB : Sh (wm.heap.size ≤ gb) := ⟨by omega⟩
    rw [← hgb] at HBX7
    go_upto_if 55 with fail
    rw [← hgb]
    clear hgb hd hk hk2
    go_cut [14] (fun s14 wx => s14 = .int .i64 d ∧ wx = wm.alloc (.cells #[.slice none 0 0, .slice none 0 0, .slice none 0 0, .slice none 0 0, .slice none 0 0, .slice none 0 0, .slice none 0 0] 46))
    case first =>
      by_cases hb0 : by_ = 0
      · have hb1 : (by_ == 0) = true := beq_iff_eq.2 hb0
        have hb2 : d = 1 := by rw [HDD.out, if_pos hb0]
        clear hb0
        go_wp2_with fail
        go_meet
        case rel => exact ⟨by rw [hb2], rfl⟩
      · have hb1 : (by_ == 0) = false := beq_eq_false_iff_ne.2 hb0
        have hb2 : d = by_ := by rw [HDD.out, if_neg hb0]
        clear hb0
        go_wp2_with fail
        go_meet
        case rel => exact ⟨by rw [hb2], rfl⟩
    case rest =>
    obtain ⟨rfl, hwx⟩ := hcut
    subst hwx
    go_wp2
    go_loopw [15] (fun iv wr => ∃ (i : Nat) (Bs : Fin 7 → Option Addr) (ks ds : Fin 7 → Nat), iv = .int .i64 i ∧ i ≤ n ∧ Sh (Bag wm wr Bs ks ds (tb L k d how i)) ∧ Sh (Blk wr gb 46 #[.slice (Bs 0) (ks 0) (ds 0), .slice (Bs 1) (ks 1) (ds 1), .slice (Bs 2) (ks 2) (ds 2), .slice (Bs 3) (ks 3) (ds 3), .slice (Bs 4) (ks 4) (ds 4), .slice (Bs 5) (ks 5) (ds 5), .slice (Bs 6) (ks 6) (ds 6)]) ∧ Sh (Below wm.heap.size wm wr)) (fun iv _ => n - (intOf iv).toNat)
    case atStart => exact ⟨0, fun _ => none, fun _ => 0, fun _ => 0, rfl, Nat.zero_le _, ⟨Bag.none_ (HB7.out.size)⟩, HBX7, HB7⟩
    case round =>
      clear HBX7 HB7
      obtain ⟨i, Bs, ks, ds, rfl, hin, HBG, HBK, HB⟩ := hrel
      by_cases hlt : i < n
      · obtain ⟨f0, f1, hx, hf0, hf1, hf2, hf3⟩ := HLB.out i hlt
        have hxd : L.getD i ⟨0, 0⟩ = ⟨f0, f1⟩ := by rw [List.getD_eq_getElem?_getD, hx]; rfl
        have hCr := Kd.C_below HCL.out HB.out
        obtain ⟨ad, rfl, cx0, cx1⟩ := at_T58 hCr (i : Int) (by omega) (by omega)
        have hrx : rd_T58 L (i : Int) = ⟨f0, f1⟩ := by simp [rd_T58, List.getD_eq_getElem?_getD, hx]
        rw [hrx, Int.toNat_natCast] at cx0 cx1
        dsimp only at cx0 cx1
        obtain ⟨j, hj⟩ : ∃ j, j = 1 + (i : Int) % 7 := ⟨_, rfl⟩
        have hj7 : 1 ≤ j ∧ j ≤ 7 := by omega
        have z2 : (i : Int) < (n : Int) := by omega
        obtain ⟨gx, hgx⟩ : ∃ g, g = wr.heap.size := ⟨_, rfl⟩
        have HX0 : Sh (Blk (wr.alloc (.cells #[.int .i64 f0, .int .i64 f1] 58)) gx 58 #[.int .i64 f0, .int .i64 f1]) := ⟨Blk.new_ _ _ _ hgx⟩
        have HXA : Sh (Below wr.heap.size wr (wr.alloc (.cells #[.int .i64 f0, .int .i64 f1] 58))) := ⟨below_alloc (Below.refl _ _) _⟩
        have HBA : Sh (Bag wm (wr.alloc (.cells #[.int .i64 f0, .int .i64 f1] 58)) Bs ks ds (tb L k d how i)) := ⟨HBG.out.below HXA.out⟩
        have HKA : Sh (Blk (wr.alloc (.cells #[.int .i64 f0, .int .i64 f1] 58)) gb 46 #[.slice (Bs 0) (ks 0) (ds 0), .slice (Bs 1) (ks 1) (ds 1), .slice (Bs 2) (ks 2) (ds 2), .slice (Bs 3) (ks 3) (ds 3), .slice (Bs 4) (ks 4) (ds 4), .slice (Bs 5) (ks 5) (ds 5), .slice (Bs 6) (ks 6) (ds 6)]) := ⟨HBK.out.kp (Kp.of_below HXA.out []) (by simp)⟩
        have HLA : Sh (Below wm.heap.size wm (wr.alloc (.cells #[.int .i64 f0, .int .i64 f1] 58))) := ⟨below_step HB.out HXA.out⟩
        have HLT : Sh (∀ q, (Value.slice (Bs q) (ks q) (ds q)).ownBlock ≠ some gx) := ⟨fun q => HBG.out.lt (by omega) q⟩
        have HGE : Sh (wm.heap.size ≤ gx) := ⟨by rw [hgx]; exact HB.out.size⟩
        have HGN : Sh (gb ≠ gx) := ⟨by have := HBK.out.lt; omega⟩
        have hstp : tb L k d how (i + 1) = tb L k d how i ++ stp L k d how i := rfl
        have hql := tb_len L k d how i
        unfold stp at hstp
        rw [hxd, ← hj] at hstp
        dsimp only at hstp
        have HSTP := Sh.mk hstp
        have HJ := Sh.mk hj
        have HZQ : Sh ((tb L k d how i).length ≤ 200) := ⟨by omega⟩
        clear hstp hxd hx hCr hrx HBG HBK HB HXA hj hql
        go_upto_region 15 with fail
        rw [← hgx]
        clear hgx cx0 cx1 z2
        have v4 : Int.tmod (i : Int) 7 = j - 1 := by have := HJ.out; rw [Int.tmod_eq_emod_of_nonneg (by omega)]; omega
        have v5 : IntKind.i64.wrap (1 + (j - 1)) = j := by rw [IntKind.wrap_i64]; omega
        clear HJ
        have hm4 : Int.tmod how 4 = how % 4 := Int.tmod_eq_emod_of_nonneg (by omega)
        have hstp := HSTP.out
        clear HSTP
        by_cases hik : i = k
        · have bk1 : ((i : Int) == (k : Int)) = true := beq_iff_eq.2 (by omega)
          have bk2 : ((i : Int) != (k : Int)) = false := by rw [bne, bk1]; rfl
          rw [if_pos hik] at hstp
          by_cases c0 : how % 4 = 0
          · rw [if_pos c0, List.append_nil] at hstp
            rw [c0] at hm4
            have HN := Sh.mk hstp
            rw [← HN.out] at HBA
            clear hstp hik c0 HX0 HZQ HLT v4 v5 hj7
            go_wp2_with fail
            go_roundw
            case measure => simp [intOf]; omega
            case rel => exact ⟨i + 1, Bs, ks, ds, by go_num, by omega, HBA, HKA, HLA⟩
          · rw [if_neg c0] at hstp
            by_cases c1 : how % 4 = 1
            · rw [if_pos c1] at hstp
              rw [c1] at hm4
              clear hik c0 c1
              have HN := Sh.mk hstp
              have v6 : IntKind.i64.wrap (f0 + d) = f0 + d := by rw [IntKind.wrap_i64]; omega
              have x0 := (HX0.out.cell 0).trans (show _ = some (Value.int .i64 f0) from rfl)
              have x1 := (HX0.out.cell 1).trans (show _ = some (Value.int .i64 f1) from rfl)
              have xf := HX0.out.frozen 0
              have HZX := Sh.mk (HX0.out.set_ 0 (.int .i64 (f0 + d)))
              have HZB := Sh.mk (HBA.out.far HLT.out 0 (.int .i64 (f0 + d)))
              have HZK := Sh.mk (HKA.out.far (p := ⟨gx, 0, none⟩) HGN.out (.int .i64 (f0 + d)))
              have HZL := Sh.mk (below_set (j := 0) (v := .int .i64 (f0 + d)) HLA.out HGE.out)
              clear HX0 HBA HKA HLA HLT hstp
              go_upto_region 21 with fail
              obtain ⟨wz, hwz⟩ : ∃ z, z = ((wr.alloc (.cells #[.int .i64 f0, .int .i64 f1] 58)).setCell ⟨gx, 0, none⟩ (.int .i64 (f0 + d))) := ⟨_, rfl⟩
              rw [← hwz] at HZB HZK HZL HZX ⊢
              clear hwz
              obtain ⟨y0, hy0⟩ : ∃ y, y = f0 + d := ⟨_, rfl⟩
              obtain ⟨y1, hy1⟩ : ∃ y, y = f1 := ⟨_, rfl⟩
              rw [← hy0, ← hy1] at HZX HN
              clear hy0 hy1
              obtain ⟨k0, k1, k2, k3, k4, k5, k6⟩ : wz.cell? ⟨gb, 0, none⟩ = some (.slice (Bs 0) (ks 0) (ds 0)) ∧ wz.cell? ⟨gb, 1, none⟩ = some (.slice (Bs 1) (ks 1) (ds 1)) ∧ wz.cell? ⟨gb, 2, none⟩ = some (.slice (Bs 2) (ks 2) (ds 2)) ∧ wz.cell? ⟨gb, 3, none⟩ = some (.slice (Bs 3) (ks 3) (ds 3)) ∧ wz.cell? ⟨gb, 4, none⟩ = some (.slice (Bs 4) (ks 4) (ds 4)) ∧ wz.cell? ⟨gb, 5, none⟩ = some (.slice (Bs 5) (ks 5) (ds 5)) ∧ wz.cell? ⟨gb, 6, none⟩ = some (.slice (Bs 6) (ks 6) (ds 6)) := ⟨(HZK.out.cell 0).trans rfl, (HZK.out.cell 1).trans rfl, (HZK.out.cell 2).trans rfl, (HZK.out.cell 3).trans rfl, (HZK.out.cell 4).trans rfl, (HZK.out.cell 5).trans rfl, (HZK.out.cell 6).trans rfl⟩
              obtain ⟨cx0, cx1⟩ : wz.cell? ⟨gx, 0, none⟩ = some (.int .i64 y0) ∧ wz.cell? ⟨gx, 1, none⟩ = some (.int .i64 y1) := ⟨(HZX.out.cell 0).trans rfl, (HZX.out.cell 1).trans rfl⟩
              have HPUT := Sh.mk (put_keep wm wz Bs ks ds _ HZB.out HZL.out HZK.out j ⟨y0, y1⟩ hj7 (by have := HZQ.out; omega))
              clear HZX hj7
              go_wp2_with fail
              (with_reducible refine HPUT.out.mono ?_); rintro e wq ⟨Bs', ks', ds', rfl, FB, FL, FK, -⟩
              obtain ⟨f0, f1, f2, f3, f4, f5, f6⟩ := And.intro (FK.out.frozen 0) (And.intro (FK.out.frozen 1) (And.intro (FK.out.frozen 2) (And.intro (FK.out.frozen 3) (And.intro (FK.out.frozen 4) (And.intro (FK.out.frozen 5) (FK.out.frozen 6))))))
              obtain ⟨g0, g1, g2, g3, g4, g5, g6⟩ := And.intro (FK.out.cell 0) (And.intro (FK.out.cell 1) (And.intro (FK.out.cell 2) (And.intro (FK.out.cell 3) (And.intro (FK.out.cell 4) (And.intro (FK.out.cell 5) (FK.out.cell 6))))))
              have HST := Sh.mk (bag_stored FB.out FL.out FK.out HGB.out)
              rw [← HN.out] at HST
              clear HPUT HZB HZL HZK HZQ FB FL FK k0 k1 k2 k3 k4 k5 k6 cx0 cx1
              go_wp2_with fail
              go_roundw
              case measure => simp [intOf]; omega
              case rel => exact ⟨i + 1, Bs', ks', ds', by go_num, by omega, ⟨HST.out.1⟩, ⟨HST.out.2.1⟩, ⟨HST.out.2.2.1⟩⟩
            · rw [if_neg c1] at hstp
              by_cases c2 : how % 4 = 2
              · rw [if_pos c2] at hstp
                rw [c2] at hm4
                clear hik c0 c1 c2
                have HN := Sh.mk hstp
                have v6 : IntKind.i64.wrap (f1 + d) = f1 + d := by rw [IntKind.wrap_i64]; omega
                have x0 := (HX0.out.cell 0).trans (show _ = some (Value.int .i64 f0) from rfl)
                have x1 := (HX0.out.cell 1).trans (show _ = some (Value.int .i64 f1) from rfl)
                have xf := HX0.out.frozen 1
                have HZX := Sh.mk (HX0.out.set_ 1 (.int .i64 (f1 + d)))
                have HZB := Sh.mk (HBA.out.far HLT.out 1 (.int .i64 (f1 + d)))
                have HZK := Sh.mk (HKA.out.far (p := ⟨gx, 1, none⟩) HGN.out (.int .i64 (f1 + d)))
                have HZL := Sh.mk (below_set (j := 1) (v := .int .i64 (f1 + d)) HLA.out HGE.out)
                clear HX0 HBA HKA HLA HLT hstp
                go_upto_region 21 with fail
                obtain ⟨wz, hwz⟩ : ∃ z, z = ((wr.alloc (.cells #[.int .i64 f0, .int .i64 f1] 58)).setCell ⟨gx, 1, none⟩ (.int .i64 (f1 + d))) := ⟨_, rfl⟩
                rw [← hwz] at HZB HZK HZL HZX ⊢
                clear hwz
                obtain ⟨y0, hy0⟩ : ∃ y, y = f0 := ⟨_, rfl⟩
                obtain ⟨y1, hy1⟩ : ∃ y, y = f1 + d := ⟨_, rfl⟩
                rw [← hy0, ← hy1] at HZX HN
                clear hy0 hy1
                obtain ⟨k0, k1, k2, k3, k4, k5, k6⟩ : wz.cell? ⟨gb, 0, none⟩ = some (.slice (Bs 0) (ks 0) (ds 0)) ∧ wz.cell? ⟨gb, 1, none⟩ = some (.slice (Bs 1) (ks 1) (ds 1)) ∧ wz.cell? ⟨gb, 2, none⟩ = some (.slice (Bs 2) (ks 2) (ds 2)) ∧ wz.cell? ⟨gb, 3, none⟩ = some (.slice (Bs 3) (ks 3) (ds 3)) ∧ wz.cell? ⟨gb, 4, none⟩ = some (.slice (Bs 4) (ks 4) (ds 4)) ∧ wz.cell? ⟨gb, 5, none⟩ = some (.slice (Bs 5) (ks 5) (ds 5)) ∧ wz.cell? ⟨gb, 6, none⟩ = some (.slice (Bs 6) (ks 6) (ds 6)) := ⟨(HZK.out.cell 0).trans rfl, (HZK.out.cell 1).trans rfl, (HZK.out.cell 2).trans rfl, (HZK.out.cell 3).trans rfl, (HZK.out.cell 4).trans rfl, (HZK.out.cell 5).trans rfl, (HZK.out.cell 6).trans rfl⟩
                obtain ⟨cx0, cx1⟩ : wz.cell? ⟨gx, 0, none⟩ = some (.int .i64 y0) ∧ wz.cell? ⟨gx, 1, none⟩ = some (.int .i64 y1) := ⟨(HZX.out.cell 0).trans rfl, (HZX.out.cell 1).trans rfl⟩
                have HPUT := Sh.mk (put_keep wm wz Bs ks ds _ HZB.out HZL.out HZK.out j ⟨y0, y1⟩ hj7 (by have := HZQ.out; omega))
                clear HZX hj7
                go_wp2_with fail
                (with_reducible refine HPUT.out.mono ?_); rintro e wq ⟨Bs', ks', ds', rfl, FB, FL, FK, -⟩
                obtain ⟨f0, f1, f2, f3, f4, f5, f6⟩ := And.intro (FK.out.frozen 0) (And.intro (FK.out.frozen 1) (And.intro (FK.out.frozen 2) (And.intro (FK.out.frozen 3) (And.intro (FK.out.frozen 4) (And.intro (FK.out.frozen 5) (FK.out.frozen 6))))))
                obtain ⟨g0, g1, g2, g3, g4, g5, g6⟩ := And.intro (FK.out.cell 0) (And.intro (FK.out.cell 1) (And.intro (FK.out.cell 2) (And.intro (FK.out.cell 3) (And.intro (FK.out.cell 4) (And.intro (FK.out.cell 5) (FK.out.cell 6))))))
                have HST := Sh.mk (bag_stored FB.out FL.out FK.out HGB.out)
                rw [← HN.out] at HST
                clear HPUT HZB HZL HZK HZQ FB FL FK k0 k1 k2 k3 k4 k5 k6 cx0 cx1
                go_wp2_with fail
                go_roundw
                case measure => simp [intOf]; omega
                case rel => exact ⟨i + 1, Bs', ks', ds', by go_num, by omega, ⟨HST.out.1⟩, ⟨HST.out.2.1⟩, ⟨HST.out.2.2.1⟩⟩
              · rw [if_neg c2] at hstp
                rw [show how % 4 = 3 by omega] at hm4
                clear hik c0 c1 c2
                have HN : Sh (tb L k d how (i + 1) = (tb L k d how i ++ [(2, ⟨f0, f1⟩)]) ++ [(j, ⟨f0, f1⟩)]) := ⟨by rw [hstp]; simp⟩
                have HPUT := Sh.mk (put_keep wm (wr.alloc (.cells #[.int .i64 f0, .int .i64 f1] 58)) Bs ks ds _ HBA.out HLA.out HKA.out 2 ⟨f0, f1⟩ (by omega) (by have := HZQ.out; omega))
                clear hstp
                obtain ⟨k0, k1, k2, k3, k4, k5, k6⟩ : (wr.alloc (.cells #[.int .i64 f0, .int .i64 f1] 58)).cell? ⟨gb, 0, none⟩ = some (.slice (Bs 0) (ks 0) (ds 0)) ∧ (wr.alloc (.cells #[.int .i64 f0, .int .i64 f1] 58)).cell? ⟨gb, 1, none⟩ = some (.slice (Bs 1) (ks 1) (ds 1)) ∧ (wr.alloc (.cells #[.int .i64 f0, .int .i64 f1] 58)).cell? ⟨gb, 2, none⟩ = some (.slice (Bs 2) (ks 2) (ds 2)) ∧ (wr.alloc (.cells #[.int .i64 f0, .int .i64 f1] 58)).cell? ⟨gb, 3, none⟩ = some (.slice (Bs 3) (ks 3) (ds 3)) ∧ (wr.alloc (.cells #[.int .i64 f0, .int .i64 f1] 58)).cell? ⟨gb, 4, none⟩ = some (.slice (Bs 4) (ks 4) (ds 4)) ∧ (wr.alloc (.cells #[.int .i64 f0, .int .i64 f1] 58)).cell? ⟨gb, 5, none⟩ = some (.slice (Bs 5) (ks 5) (ds 5)) ∧ (wr.alloc (.cells #[.int .i64 f0, .int .i64 f1] 58)).cell? ⟨gb, 6, none⟩ = some (.slice (Bs 6) (ks 6) (ds 6)) := ⟨(HKA.out.cell 0).trans rfl, (HKA.out.cell 1).trans rfl, (HKA.out.cell 2).trans rfl, (HKA.out.cell 3).trans rfl, (HKA.out.cell 4).trans rfl, (HKA.out.cell 5).trans rfl, (HKA.out.cell 6).trans rfl⟩
                obtain ⟨cx0, cx1⟩ : (wr.alloc (.cells #[.int .i64 f0, .int .i64 f1] 58)).cell? ⟨gx, 0, none⟩ = some (.int .i64 f0) ∧ (wr.alloc (.cells #[.int .i64 f0, .int .i64 f1] 58)).cell? ⟨gx, 1, none⟩ = some (.int .i64 f1) := ⟨(HX0.out.cell 0).trans rfl, (HX0.out.cell 1).trans rfl⟩
                go_wp2_with fail
                (with_reducible refine HPUT.out.mono ?_); rintro e wq ⟨Bt, kt, dt, rfl, FB, FL, FK, FX⟩
                have FXX : Sh (Blk wq gx 58 #[.int .i64 f0, .int .i64 f1]) := ⟨FX.out gx _ _ HX0.out HLT.out⟩
                obtain ⟨f0_, f1_, f2, f3, f4, f5, f6⟩ := And.intro (FK.out.frozen 0) (And.intro (FK.out.frozen 1) (And.intro (FK.out.frozen 2) (And.intro (FK.out.frozen 3) (And.intro (FK.out.frozen 4) (And.intro (FK.out.frozen 5) (FK.out.frozen 6))))))
                obtain ⟨g0, g1, g2, g3, g4, g5, g6⟩ := And.intro (FK.out.cell 0) (And.intro (FK.out.cell 1) (And.intro (FK.out.cell 2) (And.intro (FK.out.cell 3) (And.intro (FK.out.cell 4) (And.intro (FK.out.cell 5) (FK.out.cell 6))))))
                have HST := Sh.mk (bag_stored FB.out FL.out FK.out HGB.out)
                have HZB := Sh.mk HST.out.1
                have HZK := Sh.mk HST.out.2.1
                have HZL := Sh.mk HST.out.2.2.1
                have HZX := Sh.mk (HST.out.2.2.2 gx _ _ (fun h => HGN.out h.symm) FXX.out)
                have HZQ2 : Sh ((tb L k d how i ++ [((2 : Int), (⟨f0, f1⟩ : Pq))]).length ≤ 201) := ⟨by have := HZQ.out; rw [List.length_append]; simp; omega⟩
                clear HZQ HST HPUT HX0 HBA HKA HLA HLT FB FL FK FX FXX k0 k1 k2 k3 k4 k5 k6 cx0 cx1
                have HZQ := HZQ2
                clear HZQ2
                go_upto_region 21 with fail
                obtain ⟨wz, hwz⟩ : ∃ z, z = (((((((wq.setCell ⟨gb, 0, none⟩ (.slice (Bt 0) (kt 0) (dt 0))).setCell ⟨gb, 1, none⟩ (.slice (Bt 1) (kt 1) (dt 1))).setCell ⟨gb, 2, none⟩ (.slice (Bt 2) (kt 2) (dt 2))).setCell ⟨gb, 3, none⟩ (.slice (Bt 3) (kt 3) (dt 3))).setCell ⟨gb, 4, none⟩ (.slice (Bt 4) (kt 4) (dt 4))).setCell ⟨gb, 5, none⟩ (.slice (Bt 5) (kt 5) (dt 5))).setCell ⟨gb, 6, none⟩ (.slice (Bt 6) (kt 6) (dt 6))) := ⟨_, rfl⟩
                rw [← hwz] at HZB HZK HZL HZX ⊢
                clear hwz
                obtain ⟨y0, hy0⟩ : ∃ y, y = f0 := ⟨_, rfl⟩
                obtain ⟨y1, hy1⟩ : ∃ y, y = f1 := ⟨_, rfl⟩
                rw [← hy0, ← hy1] at HZX HN HZB HZQ
                clear hy0 hy1
                obtain ⟨k0, k1, k2, k3, k4, k5, k6⟩ : wz.cell? ⟨gb, 0, none⟩ = some (.slice (Bt 0) (kt 0) (dt 0)) ∧ wz.cell? ⟨gb, 1, none⟩ = some (.slice (Bt 1) (kt 1) (dt 1)) ∧ wz.cell? ⟨gb, 2, none⟩ = some (.slice (Bt 2) (kt 2) (dt 2)) ∧ wz.cell? ⟨gb, 3, none⟩ = some (.slice (Bt 3) (kt 3) (dt 3)) ∧ wz.cell? ⟨gb, 4, none⟩ = some (.slice (Bt 4) (kt 4) (dt 4)) ∧ wz.cell? ⟨gb, 5, none⟩ = some (.slice (Bt 5) (kt 5) (dt 5)) ∧ wz.cell? ⟨gb, 6, none⟩ = some (.slice (Bt 6) (kt 6) (dt 6)) := ⟨(HZK.out.cell 0).trans rfl, (HZK.out.cell 1).trans rfl, (HZK.out.cell 2).trans rfl, (HZK.out.cell 3).trans rfl, (HZK.out.cell 4).trans rfl, (HZK.out.cell 5).trans rfl, (HZK.out.cell 6).trans rfl⟩
                obtain ⟨cx0, cx1⟩ : wz.cell? ⟨gx, 0, none⟩ = some (.int .i64 y0) ∧ wz.cell? ⟨gx, 1, none⟩ = some (.int .i64 y1) := ⟨(HZX.out.cell 0).trans rfl, (HZX.out.cell 1).trans rfl⟩
                have HPUT := Sh.mk (put_keep wm wz Bt kt dt _ HZB.out HZL.out HZK.out j ⟨y0, y1⟩ hj7 (by have := HZQ.out; omega))
                clear HZX hj7
                go_wp2_with fail
                (with_reducible refine HPUT.out.mono ?_); rintro e wq ⟨Bs', ks', ds', rfl, FB, FL, FK, -⟩
                obtain ⟨f0, f1, f2, f3, f4, f5, f6⟩ := And.intro (FK.out.frozen 0) (And.intro (FK.out.frozen 1) (And.intro (FK.out.frozen 2) (And.intro (FK.out.frozen 3) (And.intro (FK.out.frozen 4) (And.intro (FK.out.frozen 5) (FK.out.frozen 6))))))
                obtain ⟨g0, g1, g2, g3, g4, g5, g6⟩ := And.intro (FK.out.cell 0) (And.intro (FK.out.cell 1) (And.intro (FK.out.cell 2) (And.intro (FK.out.cell 3) (And.intro (FK.out.cell 4) (And.intro (FK.out.cell 5) (FK.out.cell 6))))))
                have HST := Sh.mk (bag_stored FB.out FL.out FK.out HGB.out)
                rw [← HN.out] at HST
                clear HPUT HZB HZL HZK HZQ FB FL FK k0 k1 k2 k3 k4 k5 k6 cx0 cx1
                go_wp2_with fail
                go_roundw
                case measure => simp [intOf]; omega
                case rel => exact ⟨i + 1, Bs', ks', ds', by go_num, by omega, ⟨HST.out.1⟩, ⟨HST.out.2.1⟩, ⟨HST.out.2.2.1⟩⟩
        · have bk1 : ((i : Int) == (k : Int)) = false := beq_eq_false_iff_ne.2 (by omega)
          have bk2 : ((i : Int) != (k : Int)) = true := by rw [bne, bk1]; rfl
          rw [if_neg hik] at hstp
          have HN := Sh.mk hstp
          clear hik hstp hm4
          have HZB := HBA
          have HZK := HKA
          have HZL := HLA
          have HZX := HX0
          clear HBA HKA HLA HX0 HLT
          go_upto_region 21 with fail
          obtain ⟨wz, hwz⟩ : ∃ z, z = (wr.alloc (.cells #[.int .i64 f0, .int .i64 f1] 58)) := ⟨_, rfl⟩
          rw [← hwz] at HZB HZK HZL HZX ⊢
          clear hwz
          obtain ⟨y0, hy0⟩ : ∃ y, y = f0 := ⟨_, rfl⟩
          obtain ⟨y1, hy1⟩ : ∃ y, y = f1 := ⟨_, rfl⟩
          rw [← hy0, ← hy1] at HZX HN
          clear hy0 hy1
          obtain ⟨k0, k1, k2, k3, k4, k5, k6⟩ : wz.cell? ⟨gb, 0, none⟩ = some (.slice (Bs 0) (ks 0) (ds 0)) ∧ wz.cell? ⟨gb, 1, none⟩ = some (.slice (Bs 1) (ks 1) (ds 1)) ∧ wz.cell? ⟨gb, 2, none⟩ = some (.slice (Bs 2) (ks 2) (ds 2)) ∧ wz.cell? ⟨gb, 3, none⟩ = some (.slice (Bs 3) (ks 3) (ds 3)) ∧ wz.cell? ⟨gb, 4, none⟩ = some (.slice (Bs 4) (ks 4) (ds 4)) ∧ wz.cell? ⟨gb, 5, none⟩ = some (.slice (Bs 5) (ks 5) (ds 5)) ∧ wz.cell? ⟨gb, 6, none⟩ = some (.slice (Bs 6) (ks 6) (ds 6)) := ⟨(HZK.out.cell 0).trans rfl, (HZK.out.cell 1).trans rfl, (HZK.out.cell 2).trans rfl, (HZK.out.cell 3).trans rfl, (HZK.out.cell 4).trans rfl, (HZK.out.cell 5).trans rfl, (HZK.out.cell 6).trans rfl⟩
          obtain ⟨cx0, cx1⟩ : wz.cell? ⟨gx, 0, none⟩ = some (.int .i64 y0) ∧ wz.cell? ⟨gx, 1, none⟩ = some (.int .i64 y1) := ⟨(HZX.out.cell 0).trans rfl, (HZX.out.cell 1).trans rfl⟩
          have HPUT := Sh.mk (put_keep wm wz Bs ks ds _ HZB.out HZL.out HZK.out j ⟨y0, y1⟩ hj7 (by have := HZQ.out; omega))
          clear HZX hj7
          go_wp2_with fail
          (with_reducible refine HPUT.out.mono ?_); rintro e wq ⟨Bs', ks', ds', rfl, FB, FL, FK, -⟩
          obtain ⟨f0, f1, f2, f3, f4, f5, f6⟩ := And.intro (FK.out.frozen 0) (And.intro (FK.out.frozen 1) (And.intro (FK.out.frozen 2) (And.intro (FK.out.frozen 3) (And.intro (FK.out.frozen 4) (And.intro (FK.out.frozen 5) (FK.out.frozen 6))))))
          obtain ⟨g0, g1, g2, g3, g4, g5, g6⟩ := And.intro (FK.out.cell 0) (And.intro (FK.out.cell 1) (And.intro (FK.out.cell 2) (And.intro (FK.out.cell 3) (And.intro (FK.out.cell 4) (And.intro (FK.out.cell 5) (FK.out.cell 6))))))
          have HST := Sh.mk (bag_stored FB.out FL.out FK.out HGB.out)
          rw [← HN.out] at HST
          clear HPUT HZB HZL HZK HZQ FB FL FK k0 k1 k2 k3 k4 k5 k6 cx0 cx1
          go_wp2_with fail
          go_roundw
          case measure => simp [intOf]; omega
          case rel => exact ⟨i + 1, Bs', ks', ds', by go_num, by omega, ⟨HST.out.1⟩, ⟨HST.out.2.1⟩, ⟨HST.out.2.2.1⟩⟩
      · obtain rfl : i = n := by omega
        have HPR := Sh.mk (HBX2.out.kp (Kp.of_below HB.out []) (by simp))
        obtain ⟨k0, k1, k2, k3, k4, k5, k6⟩ : wr.cell? ⟨gp, 0, none⟩ = some (.slice (As 0) (ms 0) (cs 0)) ∧ wr.cell? ⟨gp, 1, none⟩ = some (.slice (As 1) (ms 1) (cs 1)) ∧ wr.cell? ⟨gp, 2, none⟩ = some (.slice (As 2) (ms 2) (cs 2)) ∧ wr.cell? ⟨gp, 3, none⟩ = some (.slice (As 3) (ms 3) (cs 3)) ∧ wr.cell? ⟨gp, 4, none⟩ = some (.slice (As 4) (ms 4) (cs 4)) ∧ wr.cell? ⟨gp, 5, none⟩ = some (.slice (As 5) (ms 5) (cs 5)) ∧ wr.cell? ⟨gp, 6, none⟩ = some (.slice (As 6) (ms 6) (cs 6)) := ⟨(HPR.out.cell 0).trans rfl, (HPR.out.cell 1).trans rfl, (HPR.out.cell 2).trans rfl, (HPR.out.cell 3).trans rfl, (HPR.out.cell 4).trans rfl, (HPR.out.cell 5).trans rfl, (HPR.out.cell 6).trans rfl⟩
        have HWW : Sh (Below w1.heap.size w1 wr) := ⟨below_step HB2.out HB.out⟩
        have HWQ : Sh (∀ V : World, Below wr.heap.size wr V → Calls Try.prog 34 #[.agg #[.slice (Bs 0) (ks 0) (ds 0), .slice (Bs 1) (ks 1) (ds 1), .slice (Bs 2) (ks 2) (ds 2), .slice (Bs 3) (ks 3) (ds 3), .slice (Bs 4) (ks 4) (ds 4), .slice (Bs 5) (ks 5) (ds 5), .slice (Bs 6) (ks 6) (ds 6)], .int .i64 W] V fun e w' => e = .returned (.bool false) ∧ Below V.heap.size V w') := ⟨fun V hV => by
          have h := whole_bag wm V Bs ks ds _ (HBG.out.below hV) (by rw [flatS_len _ (tb_in L _ _ _ _)]; have := tb_len L k d how i; omega) W
          rw [HNL.out, turned_no L k d how W HWH.out (by have := HNL.out; omega) HD0.out] at h
          exact h⟩
        have HKQ : Sh (∀ V : World, Below wr.heap.size wr V → V.cell? ⟨gb, 0, none⟩ = some (.slice (Bs 0) (ks 0) (ds 0)) ∧ V.cell? ⟨gb, 1, none⟩ = some (.slice (Bs 1) (ks 1) (ds 1)) ∧ V.cell? ⟨gb, 2, none⟩ = some (.slice (Bs 2) (ks 2) (ds 2)) ∧ V.cell? ⟨gb, 3, none⟩ = some (.slice (Bs 3) (ks 3) (ds 3)) ∧ V.cell? ⟨gb, 4, none⟩ = some (.slice (Bs 4) (ks 4) (ds 4)) ∧ V.cell? ⟨gb, 5, none⟩ = some (.slice (Bs 5) (ks 5) (ds 5)) ∧ V.cell? ⟨gb, 6, none⟩ = some (.slice (Bs 6) (ks 6) (ds 6))) := ⟨fun V hV => by
          have h := HBK.out.kp (Kp.of_below hV []) (by simp)
          exact ⟨(h.cell 0).trans rfl, (h.cell 1).trans rfl, (h.cell 2).trans rfl, (h.cell 3).trans rfl, (h.cell 4).trans rfl, (h.cell 5).trans rfl, (h.cell 6).trans rfl⟩⟩
        clear HBG HBK
        go_wp2_with fail
        (with_reducible refine (HWP.out wr HWW.out).mono ?_); rintro e w6 ⟨rfl, hb⟩
        have HB6 := Sh.mk hb
        obtain ⟨q0, q1, q2, q3, q4, q5, q6⟩ := HKQ.out w6 HB6.out
        clear hb k0 k1 k2 k3 k4 k5 k6
        go_wp2_with fail
        (with_reducible refine (HWQ.out w6 HB6.out).mono ?_); rintro e w7 ⟨rfl, hb⟩
        have HB7 := Sh.mk hb
        clear hb q0 q1 q2 q3 q4 q5 q6
        go_wp2_with fail
        (with_reducible refine (HAW.out _).mono ?_); rintro e w8 ⟨rfl, hb⟩
        have HB8 : Sh (Below w.heap.size w w8) := ⟨below_step (below_step (below_step (below_step HB0.out HWW.out) HB6.out) HB7.out) hb⟩
        clear hb
        go_wp2
        go_ret
        exact ⟨rfl, HB8.out⟩
theorem i8_of {x : Int} (h : (Lit.int .i8 x).wf = true) : -128 ≤ x ∧ x ≤ 127 := by
  simp only [Lit.wf, Bool.and_eq_true, decide_eq_true_eq] at h
  have h1 : IntKind.i8.min = -128 := by decide
  have h2 : IntKind.i8.max = 127 := by decide
  omega
theorem partTurned_walk (A0 : Option Addr) (c0 : Nat) (l0 : List Int) (a1 a2 a3 : Int) (w : World) (hr0 : Kd.C (Kd.int .u8) w A0 l0.length l0) (hc0 : l0.length ≤ c0) (hw0 : ∀ x ∈ l0, (Lit.int .u8 x).wf = true) (y0 : l0.length * 1 ≤ 140737488351232) (hw1 : (Lit.int .u8 a1).wf = true) (hw2 : (Lit.int .i8 a2).wf = true) (hw3 : (Lit.int .u8 a3).wf = true) :
    Calls Try.prog 11 #[.slice A0 l0.length c0, .int .u8 a1, .int .i8 a2, .int .u8 a3] w fun e w' => e = .returned (.bool true) ∧ Below w.heap.size w w' :=
  partTurned_any A0 c0 l0 a1 a2 a3 w hr0 hc0 hw0 y0 (u8_of hw1) (i8_of hw2) (u8_of hw3)
end Go.Proofs.Ythbknmblehecaaa
