/- RunsWalk's walk. No statement is proved here. -/
import Derived.Test.YthbknmblehecaaaRunsCalls
import Derived.IntWalk
import Derived.Deep.DeepCutAuto
namespace Go.Proofs.Ythbknmblehecaaa
set_option linter.unusedVariables false
set_option linter.unusedSimpArgs false
open Go.RowKit Go.Proofs.YthbknmblehecaaaW.PrintWords Go.Proofs.YthbknmblehecaaaW.PrintLast Go.Proofs.YthbknmblehecaaaW.PrintMore Pr Go.Proofs.Ythbknmblehecaaa.Pure

/-- Two rows that read the same right runs. -/
structure RW (w : World) (A1 : Option Addr) (c1 : Nat) (A2 : Option Addr) (c2 : Nat) (q : List Rn) (W : World) : Prop where
  bl : Below w.heap.size w W
  rt : rt 256 (-1) q
  h1 : q.length ≤ c1
  h2 : q.length ≤ c2
  r1 : Kd.C k32 W A1 q.length q
  r2 : Kd.C k32 W A2 q.length q
theorem RW.below {w : World} {A1 : Option Addr} {c1 : Nat} {A2 : Option Addr} {c2 : Nat} {q : List Rn} {W W' : World} (h : RW w A1 c1 A2 c2 q W) (hb : Below W.heap.size W W') : RW w A1 c1 A2 c2 q W' := ⟨below_step h.bl hb, h.rt, h.h1, h.h2, Kd.C_below h.r1 hb, Kd.C_below h.r2 hb⟩
set_option maxRecDepth 100000 in
set_option maxHeartbeats 4000000 in
theorem walk_all (w : World) (A : Option Addr) (c : Nat) (ns : List Int) (hr : Kd.C (Kd.int .u8) w A ns.length ns) (hc : ns.length ≤ c) (hw : ∀ x ∈ ns, (Lit.int .u8 x).wf = true) (hmax : ns.length ≤ 140737488351232) :
    Calls Try.prog 7 #[.slice A ns.length c] w fun e w' => e = .returned (.bool true) ∧ Below w.heap.size w w' := by
  have hu := Try.underlying32
  have hu2 := Try.underlying23
  have hi := Try.underlying3
  have hi2 := Try.underlying27
  have HR := Sh.mk hr
  have HC := Sh.mk hc
  have HW := Sh.mk hw
  clear hr hc hw
  go_enter Try.func7, Try.ntmps7
  go_wp2_with (first | ((with_reducible refine gate_dst (N := 19) rfl ?_); refine Kd.R_lit k32 _ 32 ?hg (N := 19) ?hd (xs := [(⟨0, 256⟩ : Rn)]) (inner := [.int .i64 0, .int .i64 256]) (ok := fun _ => True) (okp := fun _ => True) ?hr ?hp (fun _ hk => hk) trivial (Below.refl _ _) (Nat.le_refl _) (by simp) ?_; (case hd => rfl); (case hg => rfl); (case hr => first | (go_simp; done) | (go_simp; rfl)); (case hp => exact (Reps.c2 (show Kd.M k32 _ _ _ (⟨0, 256⟩ : Rn) [.int .i64 0, .int .i64 256] from (k32_mkM _ _ _ (⟨0, 256⟩ : Rn))) (Reps.none _ _))); intro v1 w9 ho hd hg_ hnew_; clear hg_ hnew_))
  obtain ⟨q0, hq0⟩ : ∃ q, q = [(⟨0, 256⟩ : Rn)] := ⟨_, rfl⟩
  rw [← hq0] at ho
  obtain ⟨A3, c3, e3⟩ := Kd.R_slice ho
  subst e3
  have HX : RW w A3 c3 A3 c3 q0 w9 := ⟨hd, by rw [hq0]; exact ⟨by decide, by decide, by decide, trivial⟩, (Kd.R_reads' ho).2.1, (Kd.R_reads' ho).2.1, (Kd.R_reads' ho).2.2, (Kd.R_reads' ho).2.2⟩
  clear ho hd hq0
  go_wp2
  go_loopw [3, 4, 5] (fun v3 v4 v5 wr => ∃ (i : Nat) (q : List Rn) (A1 : Option Addr) (c1 : Nat) (A2 : Option Addr) (c2 : Nat), i ≤ ns.length + 3 ∧ v3 = .slice A1 q.length c1 ∧ v4 = .slice A2 q.length c2 ∧ v5 = .int .i64 i ∧ RW w A1 c1 A2 c2 q wr) (fun _ _ v5 _ => ns.length + 3 - (intOf v5).toNat)
  case atStart => exact ⟨0, q0, A3, c3, A3, c3, by omega, rfl, rfl, rfl, HX⟩
  case round =>
    clear HX
    obtain ⟨i, q, A1, c1, A2, c2, hi_, rfl, rfl, rfl, HX⟩ := hrel
    obtain ⟨i1, hi1⟩ : ∃ x, x = (i : Int) + 1 := ⟨_, rfl⟩
    obtain ⟨i2, hi2⟩ : ∃ x, x = (i : Int) + 2 := ⟨_, rfl⟩
    have p2_ : IntKind.i64.wrap ((i : Int) + 2) = i2 := by rw [hi2]; exact IntWalk.i64_in _ (by omega)
    have p1_ : IntKind.i64.wrap ((i : Int) + 1) = i1 := by rw [hi1]; exact IntWalk.i64_in _ (by omega)
    have p3_ : IntKind.i64.wrap ((i : Int) + 3) = ((i + 3 : Nat) : Int) := by rw [IntWalk.i64_in _ (by omega)]; omega
    have HB0 : Sh (Below w.heap.size w wr) := ⟨HX.bl⟩
    have HRT := Sh.mk HX.rt
    have r1_ := Sh.mk HX.r1
    have r1H := Sh.mk HX.h1
    have r2_ := Sh.mk HX.r2
    have r2H := Sh.mk HX.h2
    have r0_ : Sh (Kd.C (Kd.int .u8) wr A ns.length ns) := ⟨Kd.C_below HR.out HX.bl⟩
    clear HX
    by_cases hb : (i2 < ns.length ∧ (i : Int) < 600)
    · obtain ⟨hb1, hb2⟩ := hb
      have b1_ : decide (i2 < (ns.length : Int)) = true := decide_eq_true hb1
      have b2_ : decide ((i : Int) < 600) = true := decide_eq_true hb2
      obtain ⟨ad, rfl, x0⟩ := Kd.at_int r0_.out (i : Int) (by omega) (by omega)
      obtain ⟨ad', ea, x1⟩ := Kd.at_int r0_.out i1 (by omega) (by omega)
      cases ea
      obtain ⟨ad', ea, x2⟩ := Kd.at_int r0_.out i2 (by omega) (by omega)
      cases ea
      have u0 := rd_u8 HW.out (i : Int)
      have u1 := rd_u8 HW.out i1
      have u2 := rd_u8 HW.out i2
      obtain ⟨n0, hn0⟩ : ∃ n, n = rd ns (i : Int) := ⟨_, rfl⟩
      obtain ⟨n1, hn1⟩ : ∃ n, n = rd ns i1 := ⟨_, rfl⟩
      obtain ⟨n2, hn2⟩ : ∃ n, n = rd ns i2 := ⟨_, rfl⟩
      rw [← hn0] at x0 u0
      rw [← hn1] at x1 u1
      rw [← hn2] at x2 u2
      clear hn0 hn1 hn2
      obtain ⟨N, hN⟩ : ∃ N, N = 1 + n1 % 40 := ⟨_, rfl⟩
      have hN1 : 1 ≤ N := by omega
      have t1_ : n1.tmod 40 = n1 % 40 := Int.tmod_eq_emod_of_nonneg u1.1
      have t0_ : n0.tmod 2 = n0 % 2 := Int.tmod_eq_emod_of_nonneg u0.1
      have v1_ : IntKind.i64.wrap n1 = n1 := IntWalk.i64_in _ (by omega)
      have v2_ : IntKind.i64.wrap n2 = n2 := IntWalk.i64_in _ (by omega)
      have v3_ : (1 : Int) + n1 % 40 = N := hN.symm
      have v4_ : IntKind.i64.wrap (1 + n1 % 40) = N := by rw [hN]; exact IntWalk.i64_in _ (by omega)
      have i0_ : (0 : Int) ≤ (i : Int) := by omega
      have i1_ : (i : Int) < (ns.length : Int) := by omega
      have i2_ : i1 < (ns.length : Int) := by omega
      have i3_ : (0 : Int) ≤ i1 := by omega
      have i4_ : (0 : Int) ≤ i2 := by omega
      have i5_ : i2 < (ns.length : Int) := hb1
      rw [Int.toNat_natCast] at x0
      have HI1 := Sh.mk hi1
      have HI2 := Sh.mk hi2
      clear hN hi1 hi2
      by_cases hev : n0 % 2 = 0
      · obtain ⟨y1, y2, y3, YE⟩ : ∃ a b c, Sh (takeA q N = (a, b, c)) := ⟨_, _, _, ⟨rfl⟩⟩
        have HRY : Sh (rt 256 (-1) y1) := ⟨by have h := takeA_rt HRT.out hN1; rw [YE.out] at h; exact h⟩
        have hq := take_any HRT.out ⟨A1, c1, rfl, r1H.out, r1_.out⟩ N
        rw [YE.out] at hq
        have H1 := Sh.mk hq
        clear hq
        go_wp2_with fail
        (with_reducible refine (H1.out).mono ?_); rintro e w1 ⟨u, rfl, hu_, hd⟩
        obtain ⟨A7, c7, rfl, hl7, hC7⟩ := hu_
        have B2 : Sh (Below (wr).heap.size (wr) (w1)) := ⟨hd⟩
        have r1C2 := Sh.mk (Kd.C_below r1_.out B2.out)
        clear r1_
        have r2C2 := Sh.mk (Kd.C_below r2_.out B2.out)
        clear r2_
        have r0C2 := Sh.mk (Kd.C_below r0_.out B2.out)
        clear r0_
        have HB2 : Sh (Below w.heap.size w (w1)) := ⟨below_step HB0.out B2.out⟩
        clear HB0
        clear hd
        have r7C2 : Sh (Kd.C k32 (w1) A7 y1.length y1) := ⟨hC7⟩
        have r7H := Sh.mk hl7
        clear hC7 hl7
        have hq := rtake_any HRT.out ⟨A2, c2, rfl, r2H.out, r2C2.out⟩ N
        rw [YE.out] at hq
        have H2 := Sh.mk hq
        clear hq
        go_wp2_with fail
        (with_reducible refine (H2.out).mono ?_); rintro e w3 ⟨u, rfl, hu_, hd⟩
        obtain ⟨A10, c10, rfl, hl10, hC10⟩ := hu_
        have B4 : Sh (Below (w1).heap.size (w1) (w3)) := ⟨hd⟩
        have r1C4 := Sh.mk (Kd.C_below r1C2.out B4.out)
        clear r1C2
        have r2C4 := Sh.mk (Kd.C_below r2C2.out B4.out)
        clear r2C2
        have r0C4 := Sh.mk (Kd.C_below r0C2.out B4.out)
        clear r0C2
        have r7C4 := Sh.mk (Kd.C_below r7C2.out B4.out)
        clear r7C2
        have HB4 : Sh (Below w.heap.size w (w3)) := ⟨below_step HB2.out B4.out⟩
        clear HB2
        clear hd
        have r10C4 : Sh (Kd.C k32 (w3) A10 y1.length y1) := ⟨hC10⟩
        have r10H := Sh.mk hl10
        clear hC10 hl10
        by_cases hok : y3 = 0
        · subst hok
          have hq := sameruns_any HRY.out ⟨A7, c7, rfl, r7H.out, r7C4.out⟩ ⟨A10, c10, rfl, r10H.out, r10C4.out⟩
          have HS := Sh.mk hq
          clear hq
          go_wp2_with fail
          (with_reducible refine (HS.out).mono ?_); rintro e w5 ⟨rfl, hd⟩
          have B6 : Sh (Below (w3).heap.size (w3) (w5)) := ⟨hd⟩
          have r1C6 := Sh.mk (Kd.C_below r1C4.out B6.out)
          clear r1C4
          have r2C6 := Sh.mk (Kd.C_below r2C4.out B6.out)
          clear r2C4
          have r0C6 := Sh.mk (Kd.C_below r0C4.out B6.out)
          clear r0C4
          have r7C6 := Sh.mk (Kd.C_below r7C4.out B6.out)
          clear r7C4
          have r10C6 := Sh.mk (Kd.C_below r10C4.out B6.out)
          clear r10C4
          have HB6 : Sh (Below w.heap.size w (w5)) := ⟨below_step HB4.out B6.out⟩
          clear HB4
          clear hd
          have hq := right_any HRY.out ⟨A7, c7, rfl, r7H.out, r7C6.out⟩
          have HG := Sh.mk hq
          clear hq
          go_wp2_with fail
          (with_reducible refine (HG.out).mono ?_); rintro e w7 ⟨rfl, hd⟩
          have B8 : Sh (Below (w5).heap.size (w5) (w7)) := ⟨hd⟩
          have r1C8 := Sh.mk (Kd.C_below r1C6.out B8.out)
          clear r1C6
          have r2C8 := Sh.mk (Kd.C_below r2C6.out B8.out)
          clear r2C6
          have r0C8 := Sh.mk (Kd.C_below r0C6.out B8.out)
          clear r0C6
          have r7C8 := Sh.mk (Kd.C_below r7C6.out B8.out)
          clear r7C6
          have r10C8 := Sh.mk (Kd.C_below r10C6.out B8.out)
          clear r10C6
          have HB8 : Sh (Below w.heap.size w (w7)) := ⟨below_step HB6.out B8.out⟩
          clear HB6
          clear hd
          go_wp2
          go_roundw
          case rel => exact ⟨i + 3, y1, A7, c7, A10, c10, by omega, rfl, rfl, by go_num, ⟨HB8.out, HRY.out, r7H.out, r10H.out, r7C8.out, r10C8.out⟩⟩
          case measure => simp [intOf]; omega
        · have hok2 : (y3 == 0) = false := by simpa using hok
          have hq := sameruns_any HRT.out ⟨A1, c1, rfl, r1H.out, r1C4.out⟩ ⟨A2, c2, rfl, r2H.out, r2C4.out⟩
          have HS := Sh.mk hq
          clear hq
          go_wp2_with fail
          (with_reducible refine (HS.out).mono ?_); rintro e w5 ⟨rfl, hd⟩
          have B6 : Sh (Below (w3).heap.size (w3) (w5)) := ⟨hd⟩
          have r1C6 := Sh.mk (Kd.C_below r1C4.out B6.out)
          clear r1C4
          have r2C6 := Sh.mk (Kd.C_below r2C4.out B6.out)
          clear r2C4
          have r0C6 := Sh.mk (Kd.C_below r0C4.out B6.out)
          clear r0C4
          have r7C6 := Sh.mk (Kd.C_below r7C4.out B6.out)
          clear r7C4
          have r10C6 := Sh.mk (Kd.C_below r10C4.out B6.out)
          clear r10C4
          have HB6 : Sh (Below w.heap.size w (w5)) := ⟨below_step HB4.out B6.out⟩
          clear HB4
          clear hd
          have hq := right_any HRT.out ⟨A1, c1, rfl, r1H.out, r1C6.out⟩
          have HG := Sh.mk hq
          clear hq
          go_wp2_with fail
          (with_reducible refine (HG.out).mono ?_); rintro e w7 ⟨rfl, hd⟩
          have B8 : Sh (Below (w5).heap.size (w5) (w7)) := ⟨hd⟩
          have r1C8 := Sh.mk (Kd.C_below r1C6.out B8.out)
          clear r1C6
          have r2C8 := Sh.mk (Kd.C_below r2C6.out B8.out)
          clear r2C6
          have r0C8 := Sh.mk (Kd.C_below r0C6.out B8.out)
          clear r0C6
          have r7C8 := Sh.mk (Kd.C_below r7C6.out B8.out)
          clear r7C6
          have r10C8 := Sh.mk (Kd.C_below r10C6.out B8.out)
          clear r10C6
          have HB8 : Sh (Below w.heap.size w (w7)) := ⟨below_step HB6.out B8.out⟩
          clear HB6
          clear hd
          go_wp2
          go_roundw
          case rel => exact ⟨i + 3, q, A1, c1, A2, c2, by omega, rfl, rfl, by go_num, ⟨HB8.out, HRT.out, r1H.out, r2H.out, r1C8.out, r2C8.out⟩⟩
          case measure => simp [intOf]; omega
      · obtain ⟨y1, y3, YE⟩ : ∃ a c, Sh (putA q n2 N = (a, c)) := ⟨_, _, ⟨rfl⟩⟩
        have HRY : Sh (rt 256 (-1) y1) := ⟨by have h := (putA_evs HRT.out n2 N).2.2; rw [YE.out] at h; exact h⟩
        have B1 : Sh (Below (wr).heap.size (wr) ((wr.alloc (.cells #[.int .i64 n2, .int .i64 N] 32)))) := ⟨(below_alloc (Below.refl _ _) _)⟩
        have r1C1 := Sh.mk (Kd.C_below r1_.out B1.out)
        clear r1_
        have r2C1 := Sh.mk (Kd.C_below r2_.out B1.out)
        clear r2_
        have r0C1 := Sh.mk (Kd.C_below r0_.out B1.out)
        clear r0_
        have HB1 : Sh (Below w.heap.size w ((wr.alloc (.cells #[.int .i64 n2, .int .i64 N] 32)))) := ⟨below_step HB0.out B1.out⟩
        clear HB0
        have g13_n1 : Sh (((wr.alloc (.cells #[.int .i64 n2, .int .i64 N] 32))).heap[wr.heap.size]? = some (.cells #[.int .i64 n2, .int .i64 N] 32 (0, 0))) := ⟨blk_new wr _⟩
        have q_g13_0 : ((wr.alloc (.cells #[.int .i64 n2, .int .i64 N] 32))).cell? ⟨wr.heap.size, 0, none⟩ = some (.int .i64 n2) := (blk_cell g13_n1.out 0).trans rfl
        have q_g13_1 : ((wr.alloc (.cells #[.int .i64 n2, .int .i64 N] 32))).cell? ⟨wr.heap.size, 1, none⟩ = some (.int .i64 N) := (blk_cell g13_n1.out 1).trans rfl
        have hq := put_any HRT.out ⟨A1, c1, rfl, r1H.out, r1C1.out⟩ n2 N
        rw [YE.out] at hq
        have H1 := Sh.mk hq
        clear hq
        go_wp2_with fail
        (with_reducible refine (H1.out).mono ?_); rintro e w2 ⟨u, rfl, hu_, hd⟩
        obtain ⟨A7, c7, rfl, hl7, hC7⟩ := hu_
        clear q_g13_0 q_g13_1
        have B3 : Sh (Below ((wr.alloc (.cells #[.int .i64 n2, .int .i64 N] 32))).heap.size ((wr.alloc (.cells #[.int .i64 n2, .int .i64 N] 32))) (w2)) := ⟨hd⟩
        have g13_3 := Sh.mk (blk_below g13_n1.out B3.out)
        clear g13_n1
        have r1C3 := Sh.mk (Kd.C_below r1C1.out B3.out)
        clear r1C1
        have r2C3 := Sh.mk (Kd.C_below r2C1.out B3.out)
        clear r2C1
        have r0C3 := Sh.mk (Kd.C_below r0C1.out B3.out)
        clear r0C1
        have HB3 : Sh (Below w.heap.size w (w2)) := ⟨below_step HB1.out B3.out⟩
        clear HB1
        clear hd
        have r7C3 : Sh (Kd.C k32 (w2) A7 y1.length y1) := ⟨hC7⟩
        have r7H := Sh.mk hl7
        clear hC7 hl7
        have q_g13_0 : (w2).cell? ⟨wr.heap.size, 0, none⟩ = some (.int .i64 n2) := (blk_cell g13_3.out 0).trans rfl
        have q_g13_1 : (w2).cell? ⟨wr.heap.size, 1, none⟩ = some (.int .i64 N) := (blk_cell g13_3.out 1).trans rfl
        have hq := rput_any HRT.out ⟨A2, c2, rfl, r2H.out, r2C3.out⟩ n2 N
        rw [YE.out] at hq
        have H2 := Sh.mk hq
        clear hq
        go_wp2_with fail
        (with_reducible refine (H2.out).mono ?_); rintro e w4 ⟨u, rfl, hu_, hd⟩
        obtain ⟨A10, c10, rfl, hl10, hC10⟩ := hu_
        clear q_g13_0 q_g13_1
        have B5 : Sh (Below (w2).heap.size (w2) (w4)) := ⟨hd⟩
        have g13_5 := Sh.mk (blk_below g13_3.out B5.out)
        clear g13_3
        have r1C5 := Sh.mk (Kd.C_below r1C3.out B5.out)
        clear r1C3
        have r2C5 := Sh.mk (Kd.C_below r2C3.out B5.out)
        clear r2C3
        have r0C5 := Sh.mk (Kd.C_below r0C3.out B5.out)
        clear r0C3
        have r7C5 := Sh.mk (Kd.C_below r7C3.out B5.out)
        clear r7C3
        have HB5 : Sh (Below w.heap.size w (w4)) := ⟨below_step HB3.out B5.out⟩
        clear HB3
        clear hd
        have r10C5 : Sh (Kd.C k32 (w4) A10 y1.length y1) := ⟨hC10⟩
        have r10H := Sh.mk hl10
        clear hC10 hl10
        have q_g13_0 : (w4).cell? ⟨wr.heap.size, 0, none⟩ = some (.int .i64 n2) := (blk_cell g13_5.out 0).trans rfl
        have q_g13_1 : (w4).cell? ⟨wr.heap.size, 1, none⟩ = some (.int .i64 N) := (blk_cell g13_5.out 1).trans rfl
        by_cases hok : y3 = 0
        · subst hok
          have hq := sameruns_any HRY.out ⟨A7, c7, rfl, r7H.out, r7C5.out⟩ ⟨A10, c10, rfl, r10H.out, r10C5.out⟩
          have HS := Sh.mk hq
          clear hq
          go_wp2_with fail
          (with_reducible refine (HS.out).mono ?_); rintro e w6 ⟨rfl, hd⟩
          clear q_g13_0 q_g13_1
          have B7 : Sh (Below (w4).heap.size (w4) (w6)) := ⟨hd⟩
          have g13_7 := Sh.mk (blk_below g13_5.out B7.out)
          clear g13_5
          have r1C7 := Sh.mk (Kd.C_below r1C5.out B7.out)
          clear r1C5
          have r2C7 := Sh.mk (Kd.C_below r2C5.out B7.out)
          clear r2C5
          have r0C7 := Sh.mk (Kd.C_below r0C5.out B7.out)
          clear r0C5
          have r7C7 := Sh.mk (Kd.C_below r7C5.out B7.out)
          clear r7C5
          have r10C7 := Sh.mk (Kd.C_below r10C5.out B7.out)
          clear r10C5
          have HB7 : Sh (Below w.heap.size w (w6)) := ⟨below_step HB5.out B7.out⟩
          clear HB5
          clear hd
          have q_g13_0 : (w6).cell? ⟨wr.heap.size, 0, none⟩ = some (.int .i64 n2) := (blk_cell g13_7.out 0).trans rfl
          have q_g13_1 : (w6).cell? ⟨wr.heap.size, 1, none⟩ = some (.int .i64 N) := (blk_cell g13_7.out 1).trans rfl
          have hq := right_any HRY.out ⟨A7, c7, rfl, r7H.out, r7C7.out⟩
          have HG := Sh.mk hq
          clear hq
          go_wp2_with fail
          (with_reducible refine (HG.out).mono ?_); rintro e w8 ⟨rfl, hd⟩
          clear q_g13_0 q_g13_1
          have B9 : Sh (Below (w6).heap.size (w6) (w8)) := ⟨hd⟩
          have g13_9 := Sh.mk (blk_below g13_7.out B9.out)
          clear g13_7
          have r1C9 := Sh.mk (Kd.C_below r1C7.out B9.out)
          clear r1C7
          have r2C9 := Sh.mk (Kd.C_below r2C7.out B9.out)
          clear r2C7
          have r0C9 := Sh.mk (Kd.C_below r0C7.out B9.out)
          clear r0C7
          have r7C9 := Sh.mk (Kd.C_below r7C7.out B9.out)
          clear r7C7
          have r10C9 := Sh.mk (Kd.C_below r10C7.out B9.out)
          clear r10C7
          have HB9 : Sh (Below w.heap.size w (w8)) := ⟨below_step HB7.out B9.out⟩
          clear HB7
          clear hd
          have q_g13_0 : (w8).cell? ⟨wr.heap.size, 0, none⟩ = some (.int .i64 n2) := (blk_cell g13_9.out 0).trans rfl
          have q_g13_1 : (w8).cell? ⟨wr.heap.size, 1, none⟩ = some (.int .i64 N) := (blk_cell g13_9.out 1).trans rfl
          go_wp2
          go_roundw
          case rel => exact ⟨i + 3, y1, A7, c7, A10, c10, by omega, rfl, rfl, by go_num, ⟨HB9.out, HRY.out, r7H.out, r10H.out, r7C9.out, r10C9.out⟩⟩
          case measure => simp [intOf]; omega
        · have hok2 : (y3 == 0) = false := by simpa using hok
          have hq := sameruns_any HRT.out ⟨A1, c1, rfl, r1H.out, r1C5.out⟩ ⟨A2, c2, rfl, r2H.out, r2C5.out⟩
          have HS := Sh.mk hq
          clear hq
          go_wp2_with fail
          (with_reducible refine (HS.out).mono ?_); rintro e w6 ⟨rfl, hd⟩
          clear q_g13_0 q_g13_1
          have B7 : Sh (Below (w4).heap.size (w4) (w6)) := ⟨hd⟩
          have g13_7 := Sh.mk (blk_below g13_5.out B7.out)
          clear g13_5
          have r1C7 := Sh.mk (Kd.C_below r1C5.out B7.out)
          clear r1C5
          have r2C7 := Sh.mk (Kd.C_below r2C5.out B7.out)
          clear r2C5
          have r0C7 := Sh.mk (Kd.C_below r0C5.out B7.out)
          clear r0C5
          have r7C7 := Sh.mk (Kd.C_below r7C5.out B7.out)
          clear r7C5
          have r10C7 := Sh.mk (Kd.C_below r10C5.out B7.out)
          clear r10C5
          have HB7 : Sh (Below w.heap.size w (w6)) := ⟨below_step HB5.out B7.out⟩
          clear HB5
          clear hd
          have q_g13_0 : (w6).cell? ⟨wr.heap.size, 0, none⟩ = some (.int .i64 n2) := (blk_cell g13_7.out 0).trans rfl
          have q_g13_1 : (w6).cell? ⟨wr.heap.size, 1, none⟩ = some (.int .i64 N) := (blk_cell g13_7.out 1).trans rfl
          have hq := right_any HRT.out ⟨A1, c1, rfl, r1H.out, r1C7.out⟩
          have HG := Sh.mk hq
          clear hq
          go_wp2_with fail
          (with_reducible refine (HG.out).mono ?_); rintro e w8 ⟨rfl, hd⟩
          clear q_g13_0 q_g13_1
          have B9 : Sh (Below (w6).heap.size (w6) (w8)) := ⟨hd⟩
          have g13_9 := Sh.mk (blk_below g13_7.out B9.out)
          clear g13_7
          have r1C9 := Sh.mk (Kd.C_below r1C7.out B9.out)
          clear r1C7
          have r2C9 := Sh.mk (Kd.C_below r2C7.out B9.out)
          clear r2C7
          have r0C9 := Sh.mk (Kd.C_below r0C7.out B9.out)
          clear r0C7
          have r7C9 := Sh.mk (Kd.C_below r7C7.out B9.out)
          clear r7C7
          have r10C9 := Sh.mk (Kd.C_below r10C7.out B9.out)
          clear r10C7
          have HB9 : Sh (Below w.heap.size w (w8)) := ⟨below_step HB7.out B9.out⟩
          clear HB7
          clear hd
          have q_g13_0 : (w8).cell? ⟨wr.heap.size, 0, none⟩ = some (.int .i64 n2) := (blk_cell g13_9.out 0).trans rfl
          have q_g13_1 : (w8).cell? ⟨wr.heap.size, 1, none⟩ = some (.int .i64 N) := (blk_cell g13_9.out 1).trans rfl
          go_wp2
          go_roundw
          case rel => exact ⟨i + 3, q, A1, c1, A2, c2, by omega, rfl, rfl, by go_num, ⟨HB9.out, HRT.out, r1H.out, r2H.out, r1C9.out, r2C9.out⟩⟩
          case measure => simp [intOf]; omega
    · by_cases hb1 : (i2 < ns.length)
      · have hb2 : ¬ (i : Int) < 600 := fun h => hb ⟨hb1, h⟩
        have b1_ : decide (i2 < (ns.length : Int)) = true := decide_eq_true hb1
        have b2_ : decide ((i : Int) < 600) = false := decide_eq_false hb2
        have HW := Sh.mk (awake_any (wr))
        go_wp2_with fail
        (with_reducible refine (HW.out).mono ?_); rintro e w1 ⟨rfl, hd⟩
        have B2 : Sh (Below (wr).heap.size (wr) (w1)) := ⟨hd⟩
        have r1C2 := Sh.mk (Kd.C_below r1_.out B2.out)
        clear r1_
        have r2C2 := Sh.mk (Kd.C_below r2_.out B2.out)
        clear r2_
        have r0C2 := Sh.mk (Kd.C_below r0_.out B2.out)
        clear r0_
        have HB2 : Sh (Below w.heap.size w (w1)) := ⟨below_step HB0.out B2.out⟩
        clear HB0
        clear hd
        go_wp2
        refine bodyPost_ret (v := .bool true) (by simp [results, Try.results7, go_sem]) rfl ?_
        exact ⟨rfl, HB2.out⟩
      · have b1_ : decide (i2 < (ns.length : Int)) = false := decide_eq_false hb1
        have HW := Sh.mk (awake_any (wr))
        go_wp2_with fail
        (with_reducible refine (HW.out).mono ?_); rintro e w1 ⟨rfl, hd⟩
        have B2 : Sh (Below (wr).heap.size (wr) (w1)) := ⟨hd⟩
        have r1C2 := Sh.mk (Kd.C_below r1_.out B2.out)
        clear r1_
        have r2C2 := Sh.mk (Kd.C_below r2_.out B2.out)
        clear r2_
        have r0C2 := Sh.mk (Kd.C_below r0_.out B2.out)
        clear r0_
        have HB2 : Sh (Below w.heap.size w (w1)) := ⟨below_step HB0.out B2.out⟩
        clear HB0
        clear hd
        go_wp2
        refine bodyPost_ret (v := .bool true) (by simp [results, Try.results7, go_sem]) rfl ?_
        exact ⟨rfl, HB2.out⟩
end Go.Proofs.Ythbknmblehecaaa
