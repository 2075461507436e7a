/- The statements' Ops: its contract. No statement is proved here. -/
import Derived.Test.YtpddppipjlagfaaLinTimes
import Derived.Test.YtpddppipjlagfaaDeedCalls
import Derived.IntWalk
import Derived.Outline
import Derived.StillTailTactics
namespace Go.Proofs.Ytpddppipjlagfaa
set_option linter.unusedVariables false
set_option linter.unusedSimpArgs false
open Go.RowKit Go.Proofs.YtpddppipjlagfaaW.PrintWords Go.Proofs.YtpddppipjlagfaaW.PrintLast Go.Proofs.YtpddppipjlagfaaW.PrintMore Pr Go.Proofs.Ytpddppipjlagfaa.Pure
attribute [local go_sem] max2_int min2_int max_two min_two

set_option maxRecDepth 100000 in
set_option maxHeartbeats 16000000 in
theorem ops_any (m : Int) (A : Option Addr) (c : Nat) (ns : List Int) (B : Option Addr) (cb : Nat) (t : List Int) (w : World) (hm : mOk m) (hr : Kd.C (Kd.int .u8) w A ns.length ns) (hc : ns.length ≤ c) (hu : ∀ x ∈ ns, (Lit.int .u8 x).wf = true) (hl : ns.length ≤ 140737488351232) (ht : Kd.C (Kd.int .u8) w B t.length t) (hut : ∀ x ∈ t, (Lit.int .u8 x).wf = true) :
    Calls Try.prog 12 #[.int .i64 m, .slice A ns.length c, .slice B t.length cb] w fun e w' => ∃ v, e = .returned v ∧ Kd.R k40 40 w' w.heap.size (fun _ => True) v (opsF m ns t) ∧ Below w.heap.size w w' := by
  have hu2 := Try.underlying40
  have hu3 := Try.underlying38
  have HDE := Sh.mk (deeds_anyR hm hr hc hu hl)
  have HT := Sh.mk ht
  have HU := Sh.mk hut
  obtain ⟨D, hD⟩ : ∃ D, D = deedsG m [] ns 0 := ⟨_, rfl⟩
  have HF : Sh (opsF m ns t = opsU t D (cut8 D.length)) := ⟨by rw [hD]; rfl⟩
  have hlen : D.length ≤ 100 := by rw [hD]; exact deeds_len m ns
  rw [← hD] at HDE
  clear hm hr hu ht hut hD
  go_enter Try.func12, Try.ntmps12
  go_wp2_with fail
  (with_reducible refine HDE.out.mono ?_); rintro e w1 ⟨Ad, cd, rfl, hcd, hD1, hb1⟩
  have HD1 := Sh.mk hD1
  have HB1 := Sh.mk hb1
  have HT1 : Sh (Kd.C (Kd.int .u8) w1 B t.length t) := ⟨Kd.C_below HT.out hb1⟩
  clear hD1 hb1 HDE HT
  go_wp2
  go_loopw [8, 9, 10] (fun v vi vp wr => ∃ (i : Nat) (z : Int), Sh (i ≤ cut8 D.length) ∧ vi = .int .i64 z ∧ Sh (z = (i : Int)) ∧ Sh (Kd.R k40 40 wr w1.heap.size (fun _ => True) v (opsU t D i)) ∧ Sh (Below w1.heap.size w1 wr)) (fun v vi vp _ => 8 - (intOf vi).toNat)
  case atStart => exact ⟨0, 0, ⟨Nat.zero_le _⟩, rfl, ⟨rfl⟩, ⟨Kd.R_nil _ _ _ _ _⟩, ⟨Below.refl _ _⟩⟩
  case round =>
    obtain ⟨i, z, HI, rfl, HZ, HO, HB⟩ := hrel
    have HI8 : Sh (i ≤ 8) := ⟨by have hi := HI.out; unfold cut8 at hi; split at hi <;> omega⟩
    by_cases c1 : i < D.length ∧ i < 8
    · obtain ⟨c1, c8⟩ := c1
      have hnext : i + 1 ≤ cut8 D.length := by unfold cut8; split <;> omega
      obtain ⟨ad, e1, hx0, hx1, hx2, hx3⟩ := at_T38 (Kd.C_below HD1.out HB.out) z (by have := HZ.out; omega) (by have := HZ.out; omega)
      subst e1
      obtain ⟨v, hv⟩ : ∃ d, d = rd_T38 D z := ⟨_, rfl⟩
      rw [← hv] at hx0 hx1 hx2 hx3
      rw [HZ.out] at hv
      obtain ⟨d0, d1, d2, d3⟩ := v
      dsimp only at hx0 hx1 hx2 hx3
      have HVD := Sh.mk hv
      clear hv
      have s1 : decide (z < (D.length : Int)) = true := decide_eq_true (by have := HZ.out; omega)
      have s2 : decide (z < 8) = true := decide_eq_true (by have := HZ.out; omega)
      have g0 := eq_true (show (0 : Int) ≤ z by have := HZ.out; omega)
      have g1 := eq_true (show z < (D.length : Int) by have := HZ.out; omega)
      obtain ⟨bz, hbz⟩ : ∃ bz : Int, bz = 20 * z := ⟨_, rfl⟩
      obtain ⟨be, hbe⟩ : ∃ be : Int, be = bz + 1 := ⟨_, rfl⟩
      obtain ⟨p, hp⟩ : ∃ p : Int, p = 2 * z := ⟨_, rfl⟩
      obtain ⟨p1, hp1⟩ : ∃ p1 : Int, p1 = p + 1 := ⟨_, rfl⟩
      have w1_ : IntKind.i64.wrap (20 * z) = bz := by rw [IntWalk.i64_in _ (by have := HZ.out; omega)]; exact hbz.symm
      have w2_ : IntKind.i64.wrap (bz + 1) = be := by rw [IntWalk.i64_in _ (by have := HZ.out; omega)]; exact hbe.symm
      have w3_ : IntKind.i64.wrap (2 * z) = p := by rw [IntWalk.i64_in _ (by have := HZ.out; omega)]; exact hp.symm
      have w4_ : IntKind.i64.wrap (p + 1) = p1 := by rw [IntWalk.i64_in _ (by have := HZ.out; omega)]; exact hp1.symm
      have HBE : Sh (bz = 20 * (i : Int) ∧ be = 20 * (i : Int) + 1 ∧ p = ((2 * i : Nat) : Int) ∧ p1 = ((2 * i + 1 : Nat) : Int)) := ⟨by have := HZ.out; omega⟩
      have C1 : Sh (i < D.length ∧ i < 8) := ⟨c1, c8⟩
      have HN := Sh.mk hnext
      clear hbz hbe hp hp1 c1 c8 hnext
      by_cases c2 : 2 * i + 1 < t.length
      · have s3 : decide (p1 < (t.length : Int)) = true := decide_eq_true (by have := HBE.out; omega)
        obtain ⟨adt, et, hy0⟩ := Kd.at_int (Kd.C_below HT1.out HB.out) ((2 * i : Nat) : Int) (by omega) (by omega)
        subst et
        clear hy0
        obtain ⟨xb, hxb⟩ : ∃ x, x = rd t ((2 * i : Nat) : Int) := ⟨_, rfl⟩
        obtain ⟨xe, hxe⟩ : ∃ x, x = rd t ((2 * i + 1 : Nat) : Int) := ⟨_, rfl⟩
        have UB : Sh (0 ≤ xb ∧ xb ≤ 255) := ⟨by rw [hxb]; exact rd_u8 HU.out _⟩
        have UE : Sh (0 ≤ xe ∧ xe ≤ 255) := ⟨by rw [hxe]; exact rd_u8 HU.out _⟩
        have HTC : Sh (∀ W, Below w1.heap.size w1 W → W.cell? (adt.add p.toNat) = some (.int .u8 xb) ∧ W.cell? (adt.add p1.toNat) = some (.int .u8 xe)) := ⟨fun W hW => by
          obtain ⟨a1, e1, h1⟩ := Kd.at_int (Kd.C_below HT1.out hW) ((2 * i : Nat) : Int) (by omega) (by omega)
          obtain ⟨a2, e2, h2⟩ := Kd.at_int (Kd.C_below HT1.out hW) ((2 * i + 1 : Nat) : Int) (by omega) (by omega)
          obtain rfl : adt = a1 := Option.some.inj e1
          obtain rfl : adt = a2 := Option.some.inj e2
          rw [← hxb] at h1
          rw [← hxe] at h2
          rw [HBE.out.2.2.1, HBE.out.2.2.2]
          exact ⟨h1, h2⟩⟩
        have HXB := Sh.mk hxb
        have HXE := Sh.mk hxe
        obtain ⟨r1, hr1⟩ : ∃ r : Int, r = xb % 70 := ⟨_, rfl⟩
        obtain ⟨r2, hr2⟩ : ∃ r : Int, r = xe % 70 := ⟨_, rfl⟩
        obtain ⟨sb, hsb⟩ : ∃ s : Int, s = bz - r1 := ⟨_, rfl⟩
        obtain ⟨bg, hbg⟩ : ∃ s : Int, s = if 0 < sb then sb else 0 := ⟨_, rfl⟩
        obtain ⟨en, hen⟩ : ∃ s : Int, s = be + r2 := ⟨_, rfl⟩
        have v1_ : IntKind.i64.wrap xb = xb := IntWalk.i64_in _ (by have := UB.out; omega)
        have v2_ : xb.tmod 70 = r1 := by rw [hr1]; exact Int.tmod_eq_emod_of_nonneg UB.out.1
        have v3_ : IntKind.i64.wrap r1 = r1 := IntWalk.i64_in _ (by have := UB.out; omega)
        have v4_ : IntKind.i64.wrap (bz - r1) = sb := by rw [IntWalk.i64_in _ (by have := UB.out; have := HBE.out; have := HI8.out; omega)]; exact hsb.symm
        have v5_ : (if 0 < sb then sb else 0) = bg := hbg.symm
        have v6_ : IntKind.i64.wrap xe = xe := IntWalk.i64_in _ (by have := UE.out; omega)
        have v7_ : xe.tmod 70 = r2 := by rw [hr2]; exact Int.tmod_eq_emod_of_nonneg UE.out.1
        have v8_ : IntKind.i64.wrap r2 = r2 := IntWalk.i64_in _ (by have := UE.out; omega)
        have v9_ : IntKind.i64.wrap (be + r2) = en := by rw [IntWalk.i64_in _ (by have := UE.out; have := HBE.out; have := HI8.out; omega)]; exact hen.symm
        have HBG : Sh (bg = mx 0 (20 * (i : Int) - xb % 70)) := ⟨by rw [hbg, hsb, hr1, HBE.out.1]; unfold mx; rfl⟩
        have HEN : Sh (en = 20 * (i : Int) + 1 + xe % 70) := ⟨by rw [hen, hr2, HBE.out.2.1]⟩
        clear hxb hxe hr1 hr2 hsb hbg hen
        go_wp2_with fail
        have HK : Sh ((wr.alloc (.cells #[.int .i64 d0, .int .i64 d1, .int .i64 d2, .int .i64 d3, .int .i64 bz, .int .i64 be] 40)).heap[wr.heap.size]? = some (.cells #[.int .i64 d0, .int .i64 d1, .int .i64 d2, .int .i64 d3, .int .i64 bz, .int .i64 be] 40 (0, 0))) := ⟨blk_new _ _⟩
        have HB6 : Sh (Below w1.heap.size w1 (wr.alloc (.cells #[.int .i64 d0, .int .i64 d1, .int .i64 d2, .int .i64 d3, .int .i64 bz, .int .i64 be] 40))) := ⟨below_alloc HB.out _⟩
        have HO6 : Sh (Kd.R k40 40 (wr.alloc (.cells #[.int .i64 d0, .int .i64 d1, .int .i64 d2, .int .i64 d3, .int .i64 bz, .int .i64 be] 40)) w1.heap.size (fun k => k ≠ wr.heap.size) u8 (opsU t D i)) := ⟨Kd.R_alloc (Kd.R_mono (Kd.R_elderB HO.out wr.heap.size (Nat.le_refl _)) (fun k hk => hk.2)) _⟩
        have GW : w1.heap.size ≤ wr.heap.size := HB.out.size
        obtain ⟨g, hg⟩ : ∃ g, g = wr.heap.size := ⟨_, rfl⟩
        rw [← hg] at HK HO6 GW ⊢
        generalize wr.alloc (.cells #[.int .i64 d0, .int .i64 d1, .int .i64 d2, .int .i64 d3, .int .i64 bz, .int .i64 be] 40) = W6 at HK HB6 HO6 ⊢
        clear hg HO HB hx0 hx1 hx2 hx3
        have HK7 : Sh (W6.drew.heap[g]? = some (.cells #[.int .i64 d0, .int .i64 d1, .int .i64 d2, .int .i64 d3, .int .i64 bz, .int .i64 be] 40 (0, 0))) := ⟨blk_drew HK.out⟩
        have HB7 : Sh (Below w1.heap.size w1 W6.drew) := ⟨below_drew HB6.out⟩
        have HO7 : Sh (Kd.R k40 40 W6.drew w1.heap.size (fun k => k ≠ g) u8 (opsU t D i)) := ⟨Kd.R_drew HO6.out⟩
        have q4 : W6.drew.cell? ⟨g, 4, none⟩ = some (.int .i64 bz) := (blk_cell HK7.out 4).trans rfl
        have qf := blk_frozen HK7.out 4
        have ⟨qt0, qt1⟩ := HTC.out _ HB7.out
        have m1 := eq_true (show (0 : Int) ≤ p by have := HBE.out; omega)
        have m2 := eq_true (show p < (t.length : Int) by have := HBE.out; omega)
        have m3 := eq_true (show (0 : Int) ≤ p1 by have := HBE.out; omega)
        have m4 := eq_true (show p1 < (t.length : Int) by have := HBE.out; omega)
        go_region_with (fail)
        all_goals (
          have HK8 : Sh (((W6.setCell ⟨g, 4, none⟩ (.int .i64 bg)).drew).heap[g]? = some (.cells #[.int .i64 d0, .int .i64 d1, .int .i64 d2, .int .i64 d3, .int .i64 bg, .int .i64 be] 40 (0, 0))) := ⟨blk_drew (blk_put (cs := #[.int .i64 d0, .int .i64 d1, .int .i64 d2, .int .i64 d3, .int .i64 bz, .int .i64 be]) HK.out 4 _ rfl)⟩
          have HB8 : Sh (Below w1.heap.size w1 ((W6.setCell ⟨g, 4, none⟩ (.int .i64 bg)).drew)) := ⟨below_drew (below_set HB6.out GW)⟩
          have HO8 : Sh (Kd.R k40 40 ((W6.setCell ⟨g, 4, none⟩ (.int .i64 bg)).drew) w1.heap.size (fun k => k ≠ g) u8 (opsU t D i)) := ⟨Kd.R_drew (Kd.R_far (p := ⟨g, 4, none⟩) HO6.out (fun k hk => hk) _)⟩
          generalize (W6.setCell ⟨g, 4, none⟩ (.int .i64 bg)).drew = W8 at HK8 HB8 HO8 ⊢
          clear HK HB6 HO6 HK7 HB7 HO7 q4 qf qt0 qt1
          have HK9 := Sh.mk (blk_drew HK8.out)
          have q5 : W8.drew.cell? ⟨g, 5, none⟩ = some (.int .i64 be) := (blk_cell HK9.out 5).trans rfl
          have qf5 := blk_frozen HK9.out 5
          have ⟨qt0, qt1⟩ := HTC.out _ (below_drew HB8.out)
          go_wp2_with fail
          go_region_with (fail)
          all_goals (
            have HK10 : Sh (((W8.setCell ⟨g, 5, none⟩ (.int .i64 en)).drew).heap[g]? = some (.cells #[.int .i64 d0, .int .i64 d1, .int .i64 d2, .int .i64 d3, .int .i64 bg, .int .i64 en] 40 (0, 0))) := ⟨blk_drew (blk_put (cs := #[.int .i64 d0, .int .i64 d1, .int .i64 d2, .int .i64 d3, .int .i64 bg, .int .i64 be]) HK8.out 5 _ rfl)⟩
            have HB10 : Sh (Below w1.heap.size w1 ((W8.setCell ⟨g, 5, none⟩ (.int .i64 en)).drew)) := ⟨below_drew (below_set HB8.out GW)⟩
            have HO10 : Sh (Kd.R k40 40 ((W8.setCell ⟨g, 5, none⟩ (.int .i64 en)).drew) w1.heap.size (fun k => k ≠ g) u8 (opsU t D i)) := ⟨Kd.R_drew (Kd.R_far (p := ⟨g, 5, none⟩) HO8.out (fun k hk => hk) _)⟩
            generalize (W8.setCell ⟨g, 5, none⟩ (.int .i64 en)).drew = W9 at HK10 HB10 HO10 ⊢
            clear HK8 HB8 HO8 HK9 q5 qf5 qt0 qt1
            have ⟨qt0, qt1⟩ := HTC.out _ HB10.out
            have w5_ : IntKind.i64.wrap (z + 1) = z + 1 := IntWalk.i64_in _ (by have := HZ.out; have := HI8.out; omega)
            have hi8 := HI8.out
            by_cases c4 : xe ≥ 240
            · have s4 : decide (xe ≥ 240) = true := decide_eq_true c4
              have s4' : decide (240 ≤ xe) = true := decide_eq_true c4
              have HV : Sh (opsU t D (i + 1) = opsU t D i ++ [(⟨⟨d0, d1, d2, d3⟩, bg, -1⟩ : Oq)]) := ⟨by rw [opsU, ← HVD.out, HBG.out, HXB.out]; unfold oOp; rw [if_pos c2, if_pos (by rw [← HXE.out]; exact c4)]⟩
              have HK11 : Sh ((W9.setCell ⟨g, 5, none⟩ (.int .i64 (-1))).heap[g]? = some (.cells #[.int .i64 d0, .int .i64 d1, .int .i64 d2, .int .i64 d3, .int .i64 bg, .int .i64 (-1)] 40 (0, 0))) := ⟨blk_put (cs := #[.int .i64 d0, .int .i64 d1, .int .i64 d2, .int .i64 d3, .int .i64 bg, .int .i64 en]) HK10.out 5 _ rfl⟩
              have HBZ : Sh (Below w1.heap.size w1 (W9.setCell ⟨g, 5, none⟩ (.int .i64 (-1)))) := ⟨below_set HB10.out GW⟩
              have HOZ : Sh (Kd.R k40 40 (W9.setCell ⟨g, 5, none⟩ (.int .i64 (-1))) w1.heap.size (fun _ => True) u8 (opsU t D i)) := ⟨Kd.R_mono (Kd.R_far (p := ⟨g, 5, none⟩) HO10.out (fun k hk => hk) _) (fun _ _ => trivial)⟩
              have qf5 := blk_frozen HK10.out 5
              have c5 : W9.cell? ⟨g, 5, none⟩ = some (.int .i64 en) := (blk_cell HK10.out 5).trans rfl
              have e0 : (W9.setCell ⟨g, 5, none⟩ (.int .i64 (-1))).cell? ⟨g, 0, none⟩ = some (.int .i64 d0) := (blk_cell HK11.out 0).trans rfl
              have e1 : (W9.setCell ⟨g, 5, none⟩ (.int .i64 (-1))).cell? ⟨g, 1, none⟩ = some (.int .i64 d1) := (blk_cell HK11.out 1).trans rfl
              have e2 : (W9.setCell ⟨g, 5, none⟩ (.int .i64 (-1))).cell? ⟨g, 2, none⟩ = some (.int .i64 d2) := (blk_cell HK11.out 2).trans rfl
              have e3 : (W9.setCell ⟨g, 5, none⟩ (.int .i64 (-1))).cell? ⟨g, 3, none⟩ = some (.int .i64 d3) := (blk_cell HK11.out 3).trans rfl
              have e4 : (W9.setCell ⟨g, 5, none⟩ (.int .i64 (-1))).cell? ⟨g, 4, none⟩ = some (.int .i64 bg) := (blk_cell HK11.out 4).trans rfl
              have e5 : (W9.setCell ⟨g, 5, none⟩ (.int .i64 (-1))).cell? ⟨g, 5, none⟩ = some (.int .i64 (-1)) := (blk_cell HK11.out 5).trans rfl
              clear c4
              go_wp2_with ((with_reducible refine gate_builtin (b := .append) (xs := #[.tmp 72, .tmp 74]) rfl ?_); at_builtin; refine Kd.R_append k40 (w0 := w1) w1.heap.size rfl (.tmp 72) (.tmp 74) 23 40 (.agg #[(.int .i64 0), (.int .i64 0), (.int .i64 0), (.int .i64 0), (.int .i64 0), (.int .i64 0)]) 48 rfl Try.underlying23 info40 rfl (by decide) (by omega) u8 (opsU t D i) (⟨⟨d0, d1, d2, d3⟩, bg, (-1)⟩ : Oq) [.int .i64 d0, .int .i64 d1, .int .i64 d2, .int .i64 d3, .int .i64 bg, .int .i64 (-1)] (fun _ => True) (fun _ => False) rfl (by first | (go_simp; done) | (go_simp; rfl)) ?aP (fun _ hk => hk.elim) ?aF ?aO ?aB ?aS ?aL ?_; (case aP => exact k40_mkM _ _ _ (⟨⟨d0, d1, d2, d3⟩, bg, (-1)⟩ : Oq)); (case aB => exact HBZ.out); (case aF => exact fun _ _ => trivial); (case aO => exact HOZ.out); (case aS => exact HBZ.out.size); (case aL => rw [opsU_len]; omega); intro v1 w9 ho hb hg hat; have HO9 := Sh.mk ho; have HB9 := Sh.mk hb; clear ho hb hg hat)
              go_roundw
              case rel => exact ⟨i + 1, z + 1, HN, rfl, ⟨by have := HZ.out; omega⟩, ⟨by rw [HV.out]; exact HO9.out⟩, HB9⟩
              case measure => have := HZ.out; have := C1.out; simp [intOf]; omega
            · have s4 : decide (xe ≥ 240) = false := decide_eq_false c4
              have s4' : decide (240 ≤ xe) = false := decide_eq_false c4
              have HV : Sh (opsU t D (i + 1) = opsU t D i ++ [(⟨⟨d0, d1, d2, d3⟩, bg, en⟩ : Oq)]) := ⟨by rw [opsU, ← HVD.out, HBG.out, HEN.out, HXB.out, HXE.out]; unfold oOp; rw [if_pos c2, if_neg (by rw [← HXE.out]; exact c4)]⟩
              have HBZ : Sh (Below w1.heap.size w1 W9) := HB10
              have HOZ : Sh (Kd.R k40 40 W9 w1.heap.size (fun _ => True) u8 (opsU t D i)) := ⟨Kd.R_mono HO10.out (fun _ _ => trivial)⟩
              have e0 : W9.cell? ⟨g, 0, none⟩ = some (.int .i64 d0) := (blk_cell HK10.out 0).trans rfl
              have e1 : W9.cell? ⟨g, 1, none⟩ = some (.int .i64 d1) := (blk_cell HK10.out 1).trans rfl
              have e2 : W9.cell? ⟨g, 2, none⟩ = some (.int .i64 d2) := (blk_cell HK10.out 2).trans rfl
              have e3 : W9.cell? ⟨g, 3, none⟩ = some (.int .i64 d3) := (blk_cell HK10.out 3).trans rfl
              have e4 : W9.cell? ⟨g, 4, none⟩ = some (.int .i64 bg) := (blk_cell HK10.out 4).trans rfl
              have e5 : W9.cell? ⟨g, 5, none⟩ = some (.int .i64 en) := (blk_cell HK10.out 5).trans rfl
              clear c4
              go_wp2_with ((with_reducible refine gate_builtin (b := .append) (xs := #[.tmp 72, .tmp 74]) rfl ?_); at_builtin; refine Kd.R_append k40 (w0 := w1) w1.heap.size rfl (.tmp 72) (.tmp 74) 23 40 (.agg #[(.int .i64 0), (.int .i64 0), (.int .i64 0), (.int .i64 0), (.int .i64 0), (.int .i64 0)]) 48 rfl Try.underlying23 info40 rfl (by decide) (by omega) u8 (opsU t D i) (⟨⟨d0, d1, d2, d3⟩, bg, en⟩ : Oq) [.int .i64 d0, .int .i64 d1, .int .i64 d2, .int .i64 d3, .int .i64 bg, .int .i64 en] (fun _ => True) (fun _ => False) rfl (by first | (go_simp; done) | (go_simp; rfl)) ?aP (fun _ hk => hk.elim) ?aF ?aO ?aB ?aS ?aL ?_; (case aP => exact k40_mkM _ _ _ (⟨⟨d0, d1, d2, d3⟩, bg, en⟩ : Oq)); (case aB => exact HBZ.out); (case aF => exact fun _ _ => trivial); (case aO => exact HOZ.out); (case aS => exact HBZ.out.size); (case aL => rw [opsU_len]; omega); intro v1 w9 ho hb hg hat; have HO9 := Sh.mk ho; have HB9 := Sh.mk hb; clear ho hb hg hat)
              go_roundw
              case rel => exact ⟨i + 1, z + 1, HN, rfl, ⟨by have := HZ.out; omega⟩, ⟨by rw [HV.out]; exact HO9.out⟩, HB9⟩
              case measure => have := HZ.out; have := C1.out; simp [intOf]; omega))
      · have s3 : decide (p1 < (t.length : Int)) = false := decide_eq_false (by have := HBE.out; omega)
        have HV : Sh (opsU t D (i + 1) = opsU t D i ++ [(⟨⟨d0, d1, d2, d3⟩, bz, be⟩ : Oq)]) := ⟨by rw [opsU, ← HVD.out, HBE.out.1, HBE.out.2.1]; unfold oOp; rw [if_neg c2]⟩
        have HOZ : Sh (Kd.R k40 40 (wr.alloc (.cells #[.int .i64 d0, .int .i64 d1, .int .i64 d2, .int .i64 d3, .int .i64 bz, .int .i64 be] 40)) w1.heap.size (fun _ => True) u8 (opsU t D i)) := ⟨Kd.R_alloc HO.out _⟩
        have HBZ : Sh (Below w1.heap.size w1 (wr.alloc (.cells #[.int .i64 d0, .int .i64 d1, .int .i64 d2, .int .i64 d3, .int .i64 bz, .int .i64 be] 40))) := ⟨below_alloc HB.out _⟩
        have hi8 := HI8.out
        have w5_ : IntKind.i64.wrap (z + 1) = z + 1 := IntWalk.i64_in _ (by have := HZ.out; omega)
        go_wp2_with ((with_reducible refine gate_builtin (b := .append) (xs := #[.tmp 72, .tmp 74]) rfl ?_); at_builtin; refine Kd.R_append k40 (w0 := w1) w1.heap.size rfl (.tmp 72) (.tmp 74) 23 40 (.agg #[(.int .i64 0), (.int .i64 0), (.int .i64 0), (.int .i64 0), (.int .i64 0), (.int .i64 0)]) 48 rfl Try.underlying23 info40 rfl (by decide) (by omega) u8 (opsU t D i) (⟨⟨d0, d1, d2, d3⟩, bz, be⟩ : Oq) [.int .i64 d0, .int .i64 d1, .int .i64 d2, .int .i64 d3, .int .i64 bz, .int .i64 be] (fun _ => True) (fun _ => False) rfl (by first | (go_simp; done) | (go_simp; rfl)) ?aP (fun _ hk => hk.elim) ?aF ?aO ?aB ?aS ?aL ?_; (case aP => exact k40_mkM _ _ _ (⟨⟨d0, d1, d2, d3⟩, bz, be⟩ : Oq)); (case aB => exact HBZ.out); (case aF => exact fun _ _ => trivial); (case aO => exact HOZ.out); (case aS => exact HBZ.out.size); (case aL => rw [opsU_len]; omega); intro v1 w9 ho hb hg hat; have HO9 := Sh.mk ho; have HB9 := Sh.mk hb; clear ho hb hg hat)
        go_roundw
        case rel => exact ⟨i + 1, z + 1, HN, rfl, ⟨by have := HZ.out; omega⟩, ⟨by rw [HV.out]; exact HO9.out⟩, HB9⟩
        case measure => have := HZ.out; have := C1.out; simp [intOf]; omega
    · have hE : i = cut8 D.length := by have hi := HI.out; unfold cut8 at hi ⊢; split at hi <;> split <;> omega
      have HE : Sh (opsU t D i = opsF m ns t) := ⟨by rw [HF.out, hE]⟩
      have HBE : Sh (Below w.heap.size w wr) := ⟨below_then HB1.out HB1.out.size HB.out⟩
      clear hE
      by_cases c3 : i < D.length
      · have s1 : decide (z < (D.length : Int)) = true := decide_eq_true (by have := HZ.out; omega)
        have s2 : decide (z < 8) = false := decide_eq_false (by have := HZ.out; omega)
        go_wp2
        go_ret
        exact ⟨_, rfl, by rw [← HE.out]; exact Kd.R_lower HO.out HB1.out.size, HBE.out⟩
      · have s1 : decide (z < (D.length : Int)) = false := decide_eq_false (by have := HZ.out; omega)
        go_wp2
        go_ret
        exact ⟨_, rfl, by rw [← HE.out]; exact Kd.R_lower HO.out HB1.out.size, HBE.out⟩
end Go.Proofs.Ytpddppipjlagfaa
