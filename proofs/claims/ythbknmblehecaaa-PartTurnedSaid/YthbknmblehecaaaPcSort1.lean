/- slices.insertionSortCmpFunc, swapRangeCmpFunc, rotateCmpFunc at pieces: contracts. No statement is proved here. -/
import Derived.Test.YthbknmblehecaaaPcMem
namespace Go.Proofs.Ythbknmblehecaaa
set_option linter.unusedVariables false
set_option linter.unusedSimpArgs false
open Go.RowKit Go.Proofs.YthbknmblehecaaaW.PrintWords Go.Proofs.YthbknmblehecaaaW.PrintLast Go.Proofs.YthbknmblehecaaaW.PrintMore Pr Go.Proofs.Ythbknmblehecaaa.Pure
variable {w0 : World} {g : Nat} {zs : List Value}

set_option maxRecDepth 100000 in
set_option maxHeartbeats 8000000 in
theorem inss_any (cap : Nat) (P X S : List Pc) (n a b : Nat) (w : World) (hrow : Row w0 w g (P ++ (X ++ S)) zs) (hn : n = P.length + X.length + S.length) (ha : a = P.length) (hb : b = P.length + X.length) (hmax : n ≤ 1000000) :
    Calls Try.prog 72 #[.slice (some ⟨g, 0, none⟩) n cap, .int .i64 a, .int .i64 b, .func (.func 57) #[] #[]] w fun e w' => e = .returned (.tuple #[]) ∧ Row w0 w' g (P ++ (sortP X ++ S)) zs := by
  have hu := Try.underlying58
  have HROW := Sh.mk hrow
  have HN := Sh.mk hn
  have HA := Sh.mk ha
  have HB := Sh.mk hb
  have hab : a ≤ b := by omega
  have hbn : b ≤ n := by omega
  clear hrow hn ha hb
  go_enter Try.func72, Try.ntmps72
  go_wp2
  go_loopw [8, 9] (fun iv jv wr => ∃ (i q : Nat), iv = .int .i64 i ∧ Sh (i = a + q) ∧ 1 ≤ q ∧ i ≤ b + 1 ∧ Sh (Row w0 wr g (P ++ (sortP (X.take q) ++ (X.drop q ++ S))) zs)) (fun iv jv _ => b + 2 - (intOf iv).toNat)
  case atStart => exact ⟨a + 1, 1, by go_num, ⟨rfl⟩, Nat.le_refl _, by omega, ⟨by
    have h : sortP (X.take 1) ++ (X.drop 1 ++ S) = X ++ S := by
      cases X with
      | nil => rfl
      | cons x X => rfl
    rw [h]; exact HROW.out⟩⟩
  case round =>
    obtain ⟨i, q, rfl, HIQ, hq, hib, HR⟩ := hrel
    by_cases hlt : i < b
    · have hqX : q < X.length := by have := HB.out; have := HA.out; have := HIQ.out; omega
      obtain ⟨x, hx⟩ : ∃ x, X.drop q = x :: X.drop (q + 1) := ⟨_, List.drop_eq_getElem_cons hqX⟩
      have hlen : (sortP (X.take q)).length = q := by rw [sortP_length, List.length_take]; omega
      have hsort := sortP_is (X.take q)
      have htk : X.take (q + 1) = X.take q ++ [x] := by
        rw [List.take_succ_eq_append_getElem hqX]
        rw [List.drop_eq_getElem_cons hqX] at hx
        rw [(List.cons.inj hx).1]
      have HTK := Sh.mk htk
      obtain ⟨Y, hY⟩ : ∃ Y, Y = sortP (X.take q) := ⟨_, rfl⟩
      rw [← hY] at hlen hsort
      have HSO := Sh.mk hsort
      have hR := HR.out
      rw [hx, ← hY] at hR
      have HR1 : Sh (Row w0 wr g (P ++ (Y ++ (x :: (X.drop (q + 1) ++ S)))) zs) := ⟨hR⟩
      obtain ⟨x0, hx0⟩ : ∃ x0, x0 = x.f0 := ⟨_, rfl⟩
      obtain ⟨x1, hx1⟩ : ∃ x1, x1 = x.f1 := ⟨_, rfl⟩
      have HX := Sh.mk (And.intro hx0 hx1)
      have HYL := Sh.mk hlen
      clear hR hx hlen hsort htk hY HR hx0 hx1
      go_wp2
      go_loopw [9] (fun jv wr => ∃ (j : Nat) (Y1 Y2 : List Pc), jv = .int .i64 j ∧ Sh (j = a + Y1.length) ∧ j ≤ i ∧ Sh (Y = Y1 ++ Y2) ∧ Sh (∀ y ∈ Y2, x.f0 < y.f0) ∧ Sh (Row w0 wr g (P ++ (Y1 ++ (x :: (Y2 ++ (X.drop (q + 1) ++ S))))) zs)) (fun jv _ => (intOf jv).toNat)
      case atStart => exact ⟨i, Y, [], rfl, ⟨by have := HYL.out; have := HIQ.out; omega⟩, Nat.le_refl _, ⟨by simp⟩, ⟨by simp⟩, ⟨by simpa using HR1.out⟩⟩
      case round =>
        clear HR1
        obtain ⟨j, Y1, Y2, rfl, HJ, hji, HYE, HGT, HR⟩ := hrel
        have hj := HJ.out
        have FIN : Sh ((∀ y ∈ Y1, y.f0 ≤ x.f0) → sortP (X.take (q + 1)) = Y1 ++ x :: Y2) := ⟨fun h => by
          rw [HTK.out]
          exact (sortP_eq (isSort_snoc x (by rw [← HYE.out]; exact HSO.out) h HGT.out)).symm⟩
        rcases List.eq_nil_or_concat Y1 with h0 | ⟨Z, y, h0⟩
        · -- nothing is left of it
          subst h0
          have hja : j = a := by simpa using hj
          have b1 : decide ((j : Int) > (a : Int)) = false := decide_eq_false (by omega)
          have b2 : decide (a < j) = false := decide_eq_false (by omega)
          clear hj hja
          go_wp2_with fail
          refine wp_region_below (by kernel_rfl) (by kernel_rfl) ?_
          repeat (go_big_quiet_step (fail))
          refine wpQuiet_nil ?_
          intro _ hw'
          obtain ⟨p, hw''⟩ := hw'
          subst hw''
          go_wp2
          go_roundw
          case measure => simp [intOf]; omega
          case rel => exact ⟨i + 1, q + 1, by go_num, ⟨by have := HIQ.out; omega⟩, by omega, by omega, ⟨(HR.out.bel p).re (by rw [FIN.out (by simp)]; simp)⟩⟩
        · rw [List.concat_eq_append] at h0
          subst h0
          obtain ⟨k, rfl⟩ : ∃ k, j = k + 1 := ⟨a + Z.length, by simp at hj; omega⟩
          have hkZ : k = (P ++ Z).length := by have := HA.out; simp at hj ⊢; omega
          have HK := Sh.mk hkZ
          have hR : Row w0 wr g ((P ++ Z) ++ y :: ([] ++ x :: (Y2 ++ (X.drop (q + 1) ++ S)))) zs := HR.out.re (by simp)
          have HR2 := Sh.mk hR
          obtain ⟨y0, hy0⟩ : ∃ y0, y0 = y.f0 := ⟨_, rfl⟩
          obtain ⟨y1, hy1⟩ : ∃ y1, y1 = y.f1 := ⟨_, rfl⟩
          have HYY := Sh.mk (And.intro hy0 hy1)
          have cx0 : ∀ p : Bel wr, p.u.cell? ⟨g, (k + 1) * 2, none⟩ = some (.int .i64 x0) := fun p => by rw [HX.out.1]; exact ((hR.re (show (P ++ Z) ++ y :: ([] ++ x :: (Y2 ++ (X.drop (q + 1) ++ S))) = ((P ++ Z) ++ [y]) ++ x :: (Y2 ++ (X.drop (q + 1) ++ S)) by simp)).bel p).c0 (by rw [hkZ]; simp; omega)
          have cx1 : ∀ p : Bel wr, p.u.cell? ⟨g, (k + 1) * 2 + 1, none⟩ = some (.int .i64 x1) := fun p => by rw [HX.out.2]; exact ((hR.re (show (P ++ Z) ++ y :: ([] ++ x :: (Y2 ++ (X.drop (q + 1) ++ S))) = ((P ++ Z) ++ [y]) ++ x :: (Y2 ++ (X.drop (q + 1) ++ S)) by simp)).bel p).c1 (by rw [hkZ]; simp; omega)
          have cy0 : ∀ p : Bel wr, p.u.cell? ⟨g, k * 2, none⟩ = some (.int .i64 y0) := fun p => by rw [hy0]; exact (hR.bel p).c0 hkZ
          have cy1 : ∀ p : Bel wr, p.u.cell? ⟨g, k * 2 + 1, none⟩ = some (.int .i64 y1) := fun p => by rw [hy1]; exact (hR.bel p).c1 hkZ
          have p0 : (0 : Int) ≤ (k : Int) + 1 := by omega
          have e0 : ((k : Int) + 1).toNat = k + 1 := by omega
          have z1 : (k : Int) + 1 < (n : Int) := by omega
          have z2 : (k : Int) < (n : Int) := by omega
          have v1 : IntKind.i64.wrap (k : Int) = (k : Int) := by rw [IntKind.wrap_i64]; omega
          have b1 : decide ((k : Int) + 1 > (a : Int)) = true := decide_eq_true (by simp at hj; omega)
          have b2 : decide (a < k + 1) = true := decide_eq_true (by simp at hj; omega)
          have hba : a < k + 1 := by simp at hj; omega
          have hbz : (a : Int) < (k : Int) + 1 := by simp at hj; omega
          have HKJ : Sh (k = a + Z.length) := ⟨by simp at hj; omega⟩
          have hki : k + 1 ≤ i := hji
          clear hj HJ hji hR hkZ HR hy0 hy1
          obtain ⟨v, hv⟩ : ∃ v, v = cmpI x0 y0 := ⟨_, rfl⟩
          have hcl : ∀ W, Calls Try.prog 57 #[.agg #[.int .i64 x0, .int .i64 x1], .agg #[.int .i64 y0, .int .i64 y1]] W fun e w' => e = .returned (.int .i64 v) ∧ Below W.heap.size W w' := fun W => by rw [hv]; exact clo_any x0 x1 y0 y1 W
          have HCL := Sh.mk hcl
          have hvl : decide (v < 0) = decide (x0 < y0) := by rw [hv]; exact cmpI_lt x0 y0
          clear hcl hv
          by_cases hc : x0 < y0
          · have bv : decide (v < 0) = true := by rw [hvl]; exact decide_eq_true hc
            have HC2 := Sh.mk hc
            clear hvl hc
            go_wp2_with fail
            refine wp_region_below (by kernel_rfl) (by kernel_rfl) ?_
            repeat (go_big_quiet_step (first | (go_at_call 57; refine Calls.bel_of (HCL.out _))))
            refine wpQuiet_nil ?_
            intro _ hw'
            obtain ⟨p, hw''⟩ := hw'
            subst hw''
            have HR3 : Sh (Row w0 p.u g ((P ++ Z) ++ y :: ([] ++ x :: (Y2 ++ (X.drop (q + 1) ++ S)))) zs) := ⟨HR2.out.bel p⟩
            replace cx0 := cx0 p
            replace cx1 := cx1 p
            replace cy0 := cy0 p
            replace cy1 := cy1 p
            generalize p.u = w3 at HR3 cx0 cx1 cy0 cy1 ⊢
            have HR4 : Sh (Row w0 ((((w3.setCell ⟨g, (k + 1) * 2, none⟩ (.int .i64 y0)).setCell ⟨g, (k + 1) * 2 + 1, none⟩ (.int .i64 y1)).setCell ⟨g, k * 2, none⟩ (.int .i64 x0)).setCell ⟨g, k * 2 + 1, none⟩ (.int .i64 x1)) g ((P ++ Z) ++ x :: ([] ++ y :: (Y2 ++ (X.drop (q + 1) ++ S)))) zs) := ⟨by
              rw [HX.out.1, HX.out.2, HYY.out.1, HYY.out.2]
              exact HR3.out.swap_hi HK.out (by rw [HK.out]; simp)⟩
            have HF := Sh.mk (And.intro (HR3.out.blk.frozen (k * 2)) (And.intro (HR3.out.blk.frozen (k * 2 + 1)) (And.intro (HR3.out.blk.frozen ((k + 1) * 2)) (HR3.out.blk.frozen ((k + 1) * 2 + 1)))))
            obtain ⟨f1, f2, f3, f4⟩ := HF.out
            clear HCL bv HR3 HF b1 b2
            go_wp2_with fail
            go_region
            go_wp2
            go_roundw
            case measure => first | (simp [intOf]; done) | (simp [intOf]; omega)
            case rel => exact ⟨k, Z, y :: Y2, by go_num, HKJ, by omega, ⟨by rw [HYE.out]; simp⟩, ⟨by
              intro u hu
              rcases List.mem_cons.1 hu with rfl | hu
              · rw [← HX.out.1, ← HYY.out.1]; exact HC2.out
              · exact HGT.out u hu⟩, ⟨(HR4.out.drew).re (by simp)⟩⟩
          · have bv : decide (v < 0) = false := by rw [hvl]; exact decide_eq_false hc
            have HLE : Sh (∀ u ∈ Z ++ [y], u.f0 ≤ x.f0) := ⟨by
              have hs := HSO.out.srt
              rw [HYE.out] at hs
              have hs1 := srt_left hs
              intro u hu
              have h1 : y.f0 ≤ x.f0 := by rw [← HX.out.1, ← HYY.out.1]; omega
              rcases List.mem_append.1 hu with hu | hu
              · have := srt_cross hs1 u hu y (by simp); omega
              · simp at hu; subst hu; exact h1⟩
            clear hvl hc
            go_wp2_with fail
            refine wp_region_below (by kernel_rfl) (by kernel_rfl) ?_
            repeat (go_big_quiet_step (first | (go_at_call 57; refine Calls.bel_of (HCL.out _))))
            refine wpQuiet_nil ?_
            intro _ hw'
            obtain ⟨p, hw''⟩ := hw'
            subst hw''
            have HR3 : Sh (Row w0 p.u g ((P ++ Z) ++ y :: ([] ++ x :: (Y2 ++ (X.drop (q + 1) ++ S)))) zs) := ⟨HR2.out.bel p⟩
            generalize p.u = w3 at HR3 ⊢
            clear HCL bv b1 b2 cx0 cx1 cy0 cy1
            go_wp2
            go_roundw
            case measure => simp [intOf]; omega
            case rel => exact ⟨i + 1, q + 1, by go_num, ⟨by have := HIQ.out; omega⟩, by omega, by omega, ⟨HR3.out.re (by rw [FIN.out HLE.out]; simp)⟩⟩
    · have HFULL : Sh (X.take q = X ∧ X.drop q = []) := ⟨by have := HB.out; have := HA.out; have := HIQ.out; exact ⟨List.take_of_length_le (by omega), List.drop_of_length_le (by omega)⟩⟩
      have HR3 : Sh (Row w0 wr g (P ++ (sortP X ++ S)) zs) := ⟨by have h := HR.out; rw [HFULL.out.1, HFULL.out.2] at h; exact h⟩
      clear HR
      go_wp2
      go_end0
      exact ⟨rfl, HR3.out⟩

set_option maxRecDepth 100000 in
set_option maxHeartbeats 8000000 in
/-- Two stretches of one length exchanged. -/
theorem swapr_any (cap : Nat) (P X M Z S : List Pc) (n a b m : Nat) (fv : Value) (w : World) (hrow : Row w0 w g (P ++ (X ++ (M ++ (Z ++ S)))) zs) (hn : n = P.length + X.length + M.length + Z.length + S.length) (ha : a = P.length) (hb : b = P.length + X.length + M.length) (hm : m = X.length) (hz : Z.length = X.length) (hmax : n ≤ 1000000) :
    Calls Try.prog 76 #[.slice (some ⟨g, 0, none⟩) n cap, .int .i64 a, .int .i64 b, .int .i64 m, fv] w fun e w' => e = .returned (.tuple #[]) ∧ Row w0 w' g (P ++ (Z ++ (M ++ (X ++ S)))) zs := by
  have hu := Try.underlying58
  have HROW := Sh.mk hrow
  have HN := Sh.mk hn
  have HA := Sh.mk ha
  have HB := Sh.mk hb
  have HM := Sh.mk hm
  have HZ := Sh.mk hz
  have hbm : b + m ≤ n := by omega
  have ham : a + m ≤ b := by omega
  clear hrow hn ha hb hm hz
  go_enter Try.func76, Try.ntmps76
  go_wp2
  go_loopw [10] (fun iv wr => ∃ t : Nat, iv = .int .i64 t ∧ t ≤ m ∧ Sh (Row w0 wr g (P ++ ((Z.take t ++ X.drop t) ++ (M ++ ((X.take t ++ Z.drop t) ++ S)))) zs)) (fun iv _ => m - (intOf iv).toNat)
  case atStart => exact ⟨0, rfl, Nat.zero_le _, ⟨by simpa using HROW.out⟩⟩
  case round =>
    obtain ⟨t, rfl, ht, HR⟩ := hrel
    by_cases hlt : t < m
    · have htX : t < X.length := by have := HM.out; omega
      have htZ : t < Z.length := by have := HM.out; have := HZ.out; omega
      obtain ⟨x, hx⟩ : ∃ x, x = X[t] := ⟨_, rfl⟩
      obtain ⟨z, hz⟩ : ∃ z, z = Z[t] := ⟨_, rfl⟩
      have hxd : X.drop t = x :: X.drop (t + 1) := by rw [hx]; exact List.drop_eq_getElem_cons htX
      have hzd : Z.drop t = z :: Z.drop (t + 1) := by rw [hz]; exact List.drop_eq_getElem_cons htZ
      have hxt : X.take (t + 1) = X.take t ++ [x] := by rw [hx]; exact List.take_succ_eq_append_getElem htX
      have hzt : Z.take (t + 1) = Z.take t ++ [z] := by rw [hz]; exact List.take_succ_eq_append_getElem htZ
      have HR2 : Sh (Row w0 wr g ((P ++ Z.take t) ++ x :: ((X.drop (t + 1) ++ (M ++ X.take t)) ++ z :: (Z.drop (t + 1) ++ S))) zs) := ⟨HR.out.re (by rw [hxd, hzd]; simp)⟩
      have hi : a + t = (P ++ Z.take t).length := by have := HA.out; rw [List.length_append, List.length_take]; omega
      have hj : b + t = (P ++ Z.take t).length + 1 + (X.drop (t + 1) ++ (M ++ X.take t)).length := by
        have := HB.out; have := HA.out; simp only [List.length_append, List.length_take, List.length_drop]; omega
      have cx0 : wr.cell? ⟨g, (a + t) * 2, none⟩ = some (.int .i64 x.f0) := HR2.out.c0 hi
      have cx1 : wr.cell? ⟨g, (a + t) * 2 + 1, none⟩ = some (.int .i64 x.f1) := HR2.out.c1 hi
      have hr3 : Row w0 wr g (((P ++ Z.take t) ++ x :: (X.drop (t + 1) ++ (M ++ X.take t))) ++ z :: (Z.drop (t + 1) ++ S)) zs := HR2.out.re (by simp)
      have cz0 : wr.cell? ⟨g, (b + t) * 2, none⟩ = some (.int .i64 z.f0) := hr3.c0 (by rw [hj]; simp; omega)
      have cz1 : wr.cell? ⟨g, (b + t) * 2 + 1, none⟩ = some (.int .i64 z.f1) := hr3.c1 (by rw [hj]; simp; omega)
      have hr4 := HR2.out.swap_lo hi hj
      have hlist : (P ++ Z.take t) ++ z :: ((X.drop (t + 1) ++ (M ++ X.take t)) ++ x :: (Z.drop (t + 1) ++ S)) = P ++ ((Z.take (t + 1) ++ X.drop (t + 1)) ++ (M ++ ((X.take (t + 1) ++ Z.drop (t + 1)) ++ S))) := by rw [hxt, hzt]; simp
      have HR4 := Sh.mk (hr4.re hlist)
      obtain ⟨f1, f2, f3, f4⟩ := And.intro (HR2.out.blk.frozen ((a + t) * 2)) (And.intro (HR2.out.blk.frozen ((a + t) * 2 + 1)) (And.intro (HR2.out.blk.frozen ((b + t) * 2)) (HR2.out.blk.frozen ((b + t) * 2 + 1))))
      obtain ⟨x0, hx0⟩ : ∃ x0, x0 = x.f0 := ⟨_, rfl⟩
      obtain ⟨x1, hx1⟩ : ∃ x1, x1 = x.f1 := ⟨_, rfl⟩
      obtain ⟨z0, hz0⟩ : ∃ z0, z0 = z.f0 := ⟨_, rfl⟩
      obtain ⟨z1, hz1⟩ : ∃ z1, z1 = z.f1 := ⟨_, rfl⟩
      rw [← hx0] at cx0 HR4
      rw [← hx1] at cx1 HR4
      rw [← hz0] at cz0 HR4
      rw [← hz1] at cz1 HR4
      have e1 : ((a : Int) + (t : Int)).toNat = a + t := by omega
      have e2 : ((b : Int) + (t : Int)).toNat = b + t := by omega
      have p1 : (0 : Int) ≤ (a : Int) + (t : Int) := by omega
      have p2 : (0 : Int) ≤ (b : Int) + (t : Int) := by omega
      have q1 : (a : Int) + (t : Int) < (n : Int) := by omega
      have q2 : (b : Int) + (t : Int) < (n : Int) := by omega
      have v1 : IntKind.i64.wrap ((a : Int) + (t : Int)) = (a : Int) + (t : Int) := by rw [IntKind.wrap_i64]; omega
      have v2 : IntKind.i64.wrap ((b : Int) + (t : Int)) = (b : Int) + (t : Int) := by rw [IntKind.wrap_i64]; omega
      clear hx hz hxd hzd hxt hzt hi hj hr3 hr4 hlist HR HR2 hx0 hx1 hz0 hz1 htX htZ
      go_wp2_with fail
      go_region
      go_wp2
      go_roundw
      case measure => simp [intOf]; omega
      case rel => exact ⟨t + 1, by go_num, by omega, ⟨HR4.out.drew⟩⟩
    · have hfull : Z.take t ++ X.drop t = Z ∧ X.take t ++ Z.drop t = X := by
        have := HM.out; have := HZ.out
        rw [List.take_of_length_le (show Z.length ≤ t by omega), List.drop_of_length_le (show X.length ≤ t by omega), List.take_of_length_le (show X.length ≤ t by omega), List.drop_of_length_le (show Z.length ≤ t by omega)]
        simp
      have HR3 : Sh (Row w0 wr g (P ++ (Z ++ (M ++ (X ++ S)))) zs) := ⟨HR.out.re (by rw [hfull.1, hfull.2])⟩
      clear HR hfull
      go_wp2
      go_end0
      exact ⟨rfl, HR3.out⟩

set_option maxRecDepth 100000 in
set_option maxHeartbeats 8000000 in
/-- Two stretches side by side change places. -/
theorem rotate_any (cap : Nat) (P U V S : List Pc) (n a m b : Nat) (fv : Value) (w : World) (hrow : Row w0 w g (P ++ (U ++ (V ++ S))) zs) (hn : n = P.length + U.length + V.length + S.length) (ha : a = P.length) (hm : m = P.length + U.length) (hb : b = P.length + U.length + V.length) (hu1 : 1 ≤ U.length) (hv1 : 1 ≤ V.length) (hmax : n ≤ 1000000) :
    Calls Try.prog 75 #[.slice (some ⟨g, 0, none⟩) n cap, .int .i64 a, .int .i64 m, .int .i64 b, fv] w fun e w' => e = .returned (.tuple #[]) ∧ Row w0 w' g (P ++ (V ++ (U ++ S))) zs := by
  obtain ⟨T, hT⟩ : ∃ T, T = P ++ (V ++ (U ++ S)) := ⟨_, rfl⟩
  have HT := Sh.mk hT
  rw [← hT]
  have HROW := Sh.mk hrow
  have HALL : Sh (n = P.length + U.length + V.length + S.length ∧ m = P.length + U.length ∧ 1 ≤ U.length ∧ 1 ≤ V.length) := ⟨⟨hn, hm, hu1, hv1⟩⟩
  obtain ⟨i0, hi0⟩ : ∃ i0, i0 = U.length := ⟨_, rfl⟩
  obtain ⟨j0, hj0⟩ : ∃ j0, j0 = V.length := ⟨_, rfl⟩
  have HI0 := Sh.mk hi0
  have HJ0 := Sh.mk hj0
  have v1 : IntKind.i64.wrap ((m : Int) - (a : Int)) = (i0 : Int) := by rw [IntKind.wrap_i64]; omega
  have v2 : IntKind.i64.wrap ((b : Int) - (m : Int)) = (j0 : Int) := by rw [IntKind.wrap_i64]; omega
  have hb1 : i0 + j0 ≤ n := by omega
  have hmn : m ≤ n := by omega
  clear hrow hn ha hm hb hu1 hv1 hT hi0 hj0
  go_enter Try.func75, Try.ntmps75
  go_wp2
  clear v1 v2
  go_loopw [10, 11] (fun iv jv wr => ∃ (i j : Nat) (P1 U1 V1 S1 : List Pc), iv = .int .i64 i ∧ jv = .int .i64 j ∧ 1 ≤ i ∧ 1 ≤ j ∧ i ≤ m ∧ m + j ≤ n ∧ Sh (i = U1.length ∧ j = V1.length ∧ m = P1.length + U1.length ∧ n = P1.length + U1.length + V1.length + S1.length ∧ T = P1 ++ (V1 ++ (U1 ++ S1))) ∧ Sh (Row w0 wr g (P1 ++ (U1 ++ (V1 ++ S1))) zs)) (fun iv jv _ => (intOf iv).toNat + (intOf jv).toNat)
  case atStart => exact ⟨i0, j0, P, U, V, S, rfl, rfl, by have := HALL.out; have := HI0.out; omega, by have := HALL.out; have := HJ0.out; omega, by have := HALL.out; have := HI0.out; omega, by have := HALL.out; have := HJ0.out; omega, ⟨⟨HI0.out, HJ0.out, HALL.out.2.1, HALL.out.1, HT.out⟩⟩, HROW⟩
  case round =>
    obtain ⟨i, j, P1, U1, V1, S1, rfl, rfl, h1i, h1j, him, hjn, HL, HR⟩ := hrel
    by_cases hij : i = j
    · subst hij
      have v1 : IntKind.i64.wrap ((m : Int) - (i : Int)) = ((m - i : Nat) : Int) := by rw [IntKind.wrap_i64]; omega
      have HC : Sh (Calls Try.prog 76 #[.slice (some ⟨g, 0, none⟩) n cap, .int .i64 ((m - i : Nat) : Int), .int .i64 m, .int .i64 i, fv] wr fun e w' => e = .returned (.tuple #[]) ∧ Row w0 w' g T zs) := ⟨by
        obtain ⟨e1, e2, e3, e4, e5⟩ := HL.out
        rw [e5]
        exact swapr_any cap P1 U1 [] V1 S1 n (m - i) m i fv wr (HR.out.re (by simp)) (by simp; omega) (by omega) (by simp; omega) e1 (by omega) hmax⟩
      clear HL HR
      go_wp2_with fail
      (with_reducible refine HC.out.mono ?_); rintro e w' ⟨rfl, hR⟩
      have HR2 := Sh.mk hR
      clear hR HC
      go_wp2
      go_end0
      exact ⟨rfl, HR2.out⟩
    · have b1 : ((i : Int) == (j : Int)) = false := beq_eq_false_iff_ne.2 (by omega)
      have v1 : IntKind.i64.wrap ((m : Int) - (i : Int)) = ((m - i : Nat) : Int) := by rw [IntKind.wrap_i64]; omega
      by_cases hgt : j < i
      · have v2 : IntKind.i64.wrap ((i : Int) - (j : Int)) = ((i - j : Nat) : Int) := by rw [IntKind.wrap_i64]; omega
        have HC : Sh (Calls Try.prog 76 #[.slice (some ⟨g, 0, none⟩) n cap, .int .i64 ((m - i : Nat) : Int), .int .i64 m, .int .i64 j, fv] wr fun e w' => e = .returned (.tuple #[]) ∧ Row w0 w' g (P1 ++ (V1 ++ (U1.drop j ++ (U1.take j ++ S1)))) zs) := ⟨by
          obtain ⟨e1, e2, e3, e4, e5⟩ := HL.out
          exact swapr_any cap P1 (U1.take j) (U1.drop j) V1 S1 n (m - i) m j fv wr (HR.out.re (by rw [← List.append_assoc (U1.take j), List.take_append_drop])) (by rw [List.length_take, List.length_drop]; omega) (by omega) (by rw [List.length_take, List.length_drop]; omega) (by rw [List.length_take]; omega) (by rw [List.length_take]; omega) hmax⟩
        have hgz : (j : Int) < (i : Int) := by omega
        clear HR
        go_wp2_with fail
        (with_reducible refine HC.out.mono ?_); rintro e w' ⟨rfl, hR⟩
        have HR2 := Sh.mk hR
        clear hR HC
        go_wp2
        go_roundw
        case measure => simp [intOf]; omega
        case rel => exact ⟨i - j, j, P1 ++ V1, U1.drop j, U1.take j, S1, by first | rfl | go_num, rfl, by omega, h1j, by omega, hjn, ⟨by
          obtain ⟨e1, e2, e3, e4, e5⟩ := HL.out
          refine ⟨by rw [List.length_drop]; omega, by rw [List.length_take]; omega, by rw [List.length_append, List.length_drop]; omega, by rw [List.length_append, List.length_drop, List.length_take]; omega, ?_⟩
          rw [e5, ← List.append_assoc (U1.take j), List.take_append_drop, List.append_assoc]⟩, ⟨HR2.out.re (by simp)⟩⟩
      · have v2 : IntKind.i64.wrap ((j : Int) - (i : Int)) = ((j - i : Nat) : Int) := by rw [IntKind.wrap_i64]; omega
        have v3 : IntKind.i64.wrap ((m : Int) + (j : Int)) = (m : Int) + (j : Int) := by rw [IntKind.wrap_i64]; omega
        have v4 : IntKind.i64.wrap ((m : Int) + (j : Int) - (i : Int)) = ((m + j - i : Nat) : Int) := by rw [IntKind.wrap_i64]; omega
        have HC : Sh (Calls Try.prog 76 #[.slice (some ⟨g, 0, none⟩) n cap, .int .i64 ((m - i : Nat) : Int), .int .i64 ((m + j - i : Nat) : Int), .int .i64 i, fv] wr fun e w' => e = .returned (.tuple #[]) ∧ Row w0 w' g (P1 ++ (V1.drop (j - i) ++ (V1.take (j - i) ++ (U1 ++ S1)))) zs) := ⟨by
          obtain ⟨e1, e2, e3, e4, e5⟩ := HL.out
          exact swapr_any cap P1 U1 (V1.take (j - i)) (V1.drop (j - i)) S1 n (m - i) (m + j - i) i fv wr (HR.out.re (by rw [← List.append_assoc (V1.take (j - i)), List.take_append_drop])) (by rw [List.length_take, List.length_drop]; omega) (by omega) (by rw [List.length_take]; omega) e1 (by rw [List.length_drop]; omega) hmax⟩
        have hgz : ¬ (j : Int) < (i : Int) := by omega
        clear HR
        go_wp2_with fail
        (with_reducible refine HC.out.mono ?_); rintro e w' ⟨rfl, hR⟩
        have HR2 := Sh.mk hR
        clear hR HC
        go_wp2
        go_roundw
        case measure => simp [intOf]; omega
        case rel => exact ⟨i, j - i, P1, V1.drop (j - i), V1.take (j - i), U1 ++ S1, rfl, by first | rfl | go_num, h1i, by omega, him, by omega, ⟨by
          obtain ⟨e1, e2, e3, e4, e5⟩ := HL.out
          refine ⟨by rw [List.length_drop]; omega, by rw [List.length_take]; omega, by rw [List.length_drop]; omega, by rw [List.length_append, List.length_drop, List.length_take]; omega, ?_⟩
          rw [e5, ← List.append_assoc (V1.take (j - i)), List.take_append_drop]⟩, HR2⟩
end Go.Proofs.Ythbknmblehecaaa
