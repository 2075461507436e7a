/- slices.symMergeCmpFunc at pieces, where one of the two stretches is a single piece: contracts. No statement is proved here. -/
import Derived.Test.YthbknmblehecaaaPcSort1
namespace Go.Proofs.Ythbknmblehecaaa
set_option linter.unusedVariables false
set_option linter.unusedSimpArgs false
open Go.RowKit Go.Proofs.YthbknmblehecaaaW.PrintWords Go.Proofs.YthbknmblehecaaaW.PrintLast Go.Proofs.YthbknmblehecaaaW.PrintMore Pr Go.Proofs.Ythbknmblehecaaa.Pure

namespace Pure
theorem srt_take {B : List Pq} (h : Srt B) {i : Nat} {u : Pq} (hu : B[i]? = some u) : ∀ x ∈ B.take (i + 1), x.f0 ≤ u.f0 := by
  intro x hx
  obtain ⟨hi, he⟩ := List.getElem?_eq_some_iff.1 hu
  rw [List.take_succ_eq_append_getElem hi, he] at hx
  rcases List.mem_append.1 hx with hx | hx
  · have hs : Srt (B.take i ++ B.drop i) := by rw [List.take_append_drop]; exact h
    rw [List.drop_eq_getElem_cons hi, he] at hs
    exact srt_cross hs x hx u (by simp)
  · simp at hx; subst hx; exact Int.le_refl _
theorem srt_drop {B : List Pq} (h : Srt B) {i : Nat} {u : Pq} (hu : B[i]? = some u) : ∀ x ∈ B.drop i, u.f0 ≤ x.f0 := by
  intro x hx
  obtain ⟨hi, he⟩ := List.getElem?_eq_some_iff.1 hu
  have hs : Srt (B.take i ++ B.drop i) := by rw [List.take_append_drop]; exact h
  have hd := srt_right hs
  rw [List.drop_eq_getElem_cons hi, he] at hx hd
  rcases List.mem_cons.1 hx with rfl | hx
  · exact Int.le_refl _
  · exact (List.pairwise_cons.1 hd).1 x hx
theorem bound_le {A B : List Pq} (hA : Srt A) (hB : Srt B) {i j : Nat} {u v : Pq} (hu : A[i]? = some u) (hv : B[j]? = some v) (h : u.f0 ≤ v.f0) : ∀ x ∈ A.take (i + 1), ∀ y ∈ B.drop j, x.f0 ≤ y.f0 := fun x hx y hy => by
  have h1 := srt_take hA hu x hx
  have h2 := srt_drop hB hv y hy
  omega
theorem bound_lt {A B : List Pq} (hA : Srt A) (hB : Srt B) {i j : Nat} {u v : Pq} (hu : A[i]? = some u) (hv : B[j]? = some v) (h : u.f0 < v.f0) : ∀ x ∈ A.take (i + 1), ∀ y ∈ B.drop j, x.f0 < y.f0 := fun x hx y hy => by
  have h1 := srt_take hA hu x hx
  have h2 := srt_drop hB hv y hy
  omega
theorem sortP_left (x : Pq) (B1 B2 : List Pq) (hB : Srt (B1 ++ B2)) (h1 : ∀ y ∈ B1, y.f0 < x.f0) (h2 : ∀ y ∈ B2, x.f0 ≤ y.f0) : sortP ([x] ++ (B1 ++ B2)) = B1 ++ x :: B2 := by
  have h := isSort_merge (a1 := []) (a2 := [x]) (b1 := B1) (b2 := B2) (by simp [Srt]) hB (by simp) (by intro u hu v hv; simp at hv; subst hv; exact h1 u hu)
  have e1 : sortP ([] ++ B1) = B1 := by rw [List.nil_append]; exact sortP_of_srt (srt_left hB)
  have e2 : sortP ([x] ++ B2) = x :: B2 := sortP_of_srt (List.pairwise_cons.2 ⟨h2, srt_right hB⟩)
  rw [e1, e2] at h
  exact (sortP_eq h).symm
theorem sortP_right (y : Pq) (A1 A2 : List Pq) (hA : Srt (A1 ++ A2)) (h1 : ∀ u ∈ A1, u.f0 ≤ y.f0) (h2 : ∀ u ∈ A2, y.f0 < u.f0) : sortP ((A1 ++ A2) ++ [y]) = A1 ++ y :: A2 :=
  (sortP_eq (isSort_snoc y ⟨hA, fun _ => rfl⟩ h1 h2)).symm
end Pure
variable {w0 : World} {g : Nat} {zs : List Value}

set_option maxRecDepth 100000 in
set_option maxHeartbeats 8000000 in
theorem symm_left (cap : Nat) (P : List Pc) (x : Pc) (B S : List Pc) (n a m b : Nat) (w : World) (hrow : Row w0 w g (P ++ (x :: (B ++ S))) zs) (hB : Srt B) (hn : n = P.length + 1 + B.length + S.length) (ha : a = P.length) (hm : m = a + 1) (hb : b = m + B.length) (hmax : n ≤ 1000000) :
    Calls Try.prog 73 #[.slice (some ⟨g, 0, none⟩) n cap, .int .i64 a, .int .i64 m, .int .i64 b, .func (.func 57) #[] #[]] w fun e w' => e = .returned (.tuple #[]) ∧ Row w0 w' g (P ++ (sortP ([x] ++ B) ++ S)) zs := by
  have hu := Try.underlying58
  have HROW := Sh.mk hrow
  have HSB := Sh.mk hB
  have HL := Sh.mk (And.intro hn (And.intro ha (And.intro hm hb)))
  have hmb : m ≤ b := by omega
  have hbn : b ≤ n := by omega
  have ham : a < m := by omega
  have v1 : IntKind.i64.wrap ((m : Int) - (a : Int)) = 1 := by rw [IntKind.wrap_i64]; omega
  have hma1 : (m : Int) - (a : Int) = 1 := by omega
  obtain ⟨x0, hx0⟩ : ∃ x0, x0 = x.f0 := ⟨_, rfl⟩
  obtain ⟨x1, hx1⟩ : ∃ x1, x1 = x.f1 := ⟨_, rfl⟩
  have HX := Sh.mk (And.intro hx0 hx1)
  clear hrow hn ha hm hb hB hx0 hx1
  go_enter Try.func73, Try.ntmps73
  go_wp2
  clear v1 hma1
  go_loopw [10, 11, 12] (fun iv jv hv wr => ∃ (i j : Nat), iv = .int .i64 i ∧ jv = .int .i64 j ∧ m ≤ i ∧ i ≤ j ∧ j ≤ b ∧ Sh (∀ y ∈ B.take (i - m), y.f0 < x.f0) ∧ Sh (∀ y ∈ B.drop (j - m), x.f0 ≤ y.f0) ∧ Sh (Row w0 wr g (P ++ (x :: (B ++ S))) zs)) (fun iv jv hv _ => (intOf jv).toNat - (intOf iv).toNat)
  case atStart => exact ⟨m, b, rfl, rfl, Nat.le_refl _, hmb, Nat.le_refl _, ⟨by simp⟩, ⟨by have := HL.out; rw [List.drop_of_length_le (by omega)]; simp⟩, HROW⟩
  case round =>
    obtain ⟨i, j, rfl, rfl, hmi, hij, hjb, HLO, HHI, HR⟩ := hrel
    by_cases hlt : i < j
    · obtain ⟨h, hh⟩ : ∃ h, h = (i + j) / 2 := ⟨_, rfl⟩
      have e1 : ((i : Int) + (j : Int)) / 2 = (h : Int) := by omega
      have hih : i ≤ h := by omega
      have hhj : h < j := by omega
      have hhB : h - m < B.length := by have := HL.out; omega
      obtain ⟨y, hy⟩ : ∃ y, B[h - m]? = some y := ⟨_, List.getElem?_eq_getElem hhB⟩
      have hyl := (List.getElem?_eq_some_iff.1 hy).2
      have hdec : B = B.take (h - m) ++ y :: B.drop (h - m + 1) := by
        have := List.take_append_drop (h - m) B
        rw [List.drop_eq_getElem_cons hhB, hyl] at this
        exact this.symm
      have HY := Sh.mk hy
      have hR2 : Row w0 wr g ((P ++ x :: B.take (h - m)) ++ y :: (B.drop (h - m + 1) ++ S)) zs := HR.out.re (show P ++ (x :: (B ++ S)) = (P ++ x :: B.take (h - m)) ++ y :: (B.drop (h - m + 1) ++ S) from (congrArg (fun q => P ++ (x :: (q ++ S))) hdec).trans (by simp))
      obtain ⟨y0, hy0⟩ : ∃ y0, y0 = y.f0 := ⟨_, rfl⟩
      obtain ⟨y1, hy1⟩ : ∃ y1, y1 = y.f1 := ⟨_, rfl⟩
      have cy0 : ∀ p : Bel wr, p.u.cell? ⟨g, h * 2, none⟩ = some (.int .i64 y0) := fun p => by rw [hy0]; exact (hR2.bel p).c0 (by have := HL.out; rw [List.length_append, List.length_cons, List.length_take]; omega)
      have cy1 : ∀ p : Bel wr, p.u.cell? ⟨g, h * 2 + 1, none⟩ = some (.int .i64 y1) := fun p => by rw [hy1]; exact (hR2.bel p).c1 (by have := HL.out; rw [List.length_append, List.length_cons, List.length_take]; omega)
      have cx0 : ∀ p : Bel wr, p.u.cell? ⟨g, a * 2, none⟩ = some (.int .i64 x0) := fun p => by rw [HX.out.1]; exact (HR.out.bel p).c0 HL.out.2.1
      have cx1 : ∀ p : Bel wr, p.u.cell? ⟨g, a * 2 + 1, none⟩ = some (.int .i64 x1) := fun p => by rw [HX.out.2]; exact (HR.out.bel p).c1 HL.out.2.1
      have HYY := Sh.mk hy0
      obtain ⟨v, hv⟩ : ∃ v, v = cmpI y0 x0 := ⟨_, rfl⟩
      have hcl : ∀ W, Calls Try.prog 57 #[.agg #[.int .i64 y0, .int .i64 y1], .agg #[.int .i64 x0, .int .i64 x1]] W fun e w' => e = .returned (.int .i64 v) ∧ Below W.heap.size W w' := fun W => by rw [hv]; exact clo_any y0 y1 x0 x1 W
      have HCL := Sh.mk hcl
      have hvl : decide (v < 0) = decide (y0 < x0) := by rw [hv]; exact cmpI_lt y0 x0
      have z1 : (h : Int) < (n : Int) := by omega
      have z2 : (a : Int) < (n : Int) := by omega
      have hhb : h < b := by omega
      clear hcl hv hdec hyl hy hR2 hy0 hy1 hhB hh
      by_cases hc : y0 < x0
      · have bv : decide (v < 0) = true := by rw [hvl]; exact decide_eq_true hc
        have HC := Sh.mk hc
        clear hvl hc
        go_wp2_with fail
        refine wp_region_below (by kernel_rfl) (by kernel_rfl) ?_
        repeat (go_big_quiet_step (first | (go_at_call 57; refine Calls.bel_of (HCL.out _))))
        refine wpQuiet_nil ?_
        intro _ hw'
        obtain ⟨p, hw''⟩ := hw'
        subst hw''
        have HR3 : Sh (Row w0 p.u g (P ++ (x :: (B ++ S))) zs) := ⟨HR.out.bel p⟩
        generalize p.u = w3 at HR3 ⊢
        clear HCL bv cx0 cx1 cy0 cy1
        go_wp2
        go_roundw
        case measure => simp [intOf]; omega
        case rel => exact ⟨h + 1, j, by go_num, rfl, by omega, by omega, hjb, ⟨by
          rw [show h + 1 - m = h - m + 1 by omega]
          intro u hu
          have h1 := srt_take HSB.out HY.out u hu
          have h2 := HC.out
          rw [HYY.out, HX.out.1] at h2
          omega⟩, HHI, HR3⟩
      · have bv : decide (v < 0) = false := by rw [hvl]; exact decide_eq_false hc
        have HC := Sh.mk hc
        clear hvl hc
        go_wp2_with fail
        refine wp_region_below (by kernel_rfl) (by kernel_rfl) ?_
        repeat (go_big_quiet_step (first | (go_at_call 57; refine Calls.bel_of (HCL.out _))))
        refine wpQuiet_nil ?_
        intro _ hw'
        obtain ⟨p, hw''⟩ := hw'
        subst hw''
        have HR3 : Sh (Row w0 p.u g (P ++ (x :: (B ++ S))) zs) := ⟨HR.out.bel p⟩
        generalize p.u = w3 at HR3 ⊢
        clear HCL bv cx0 cx1 cy0 cy1
        go_wp2
        go_roundw
        case measure => simp [intOf]; omega
        case rel => exact ⟨i, h, rfl, rfl, hmi, hih, by omega, HLO, ⟨by
          intro u hu
          have h1 := srt_drop HSB.out HY.out u hu
          have h2 := HC.out
          rw [HYY.out, HX.out.1] at h2
          omega⟩, HR3⟩
    · obtain rfl : i = j := by omega
      obtain ⟨B1, hB1⟩ : ∃ B1, B1 = B.take (i - m) := ⟨_, rfl⟩
      obtain ⟨B2, hB2⟩ : ∃ B2, B2 = B.drop (i - m) := ⟨_, rfl⟩
      have hBB : B = B1 ++ B2 := by rw [hB1, hB2, List.take_append_drop]
      have hl1 : i = m + B1.length := by have := HL.out; rw [hB1, List.length_take]; omega
      have HBB := Sh.mk hBB
      have HL1 := Sh.mk hl1
      have HFIN : Sh (sortP ([x] ++ B) = B1 ++ x :: B2) := ⟨by
        rw [hBB]
        exact sortP_left x B1 B2 (by rw [← hBB]; exact HSB.out) (by rw [hB1]; exact HLO.out) (by rw [hB2]; exact HHI.out)⟩
      have HR1 : Sh (Row w0 wr g (P ++ (x :: (B1 ++ (B2 ++ S)))) zs) := ⟨HR.out.re (by rw [hBB]; simp)⟩
      have v1 : IntKind.i64.wrap ((i : Int) - 1) = (i : Int) - 1 := by rw [IntKind.wrap_i64]; omega
      have HE : Sh (i = m + B1.length ∧ m = a + 1 ∧ a = P.length) := ⟨⟨hl1, HL.out.2.2.1, HL.out.2.1⟩⟩
      clear hBB hl1 hB1 hB2 HR HLO HHI
      go_wp2
      go_loopw [13] (fun kv wr => ∃ (k t : Nat), kv = .int .i64 k ∧ Sh (k = a + t) ∧ k + 1 ≤ i ∧ Sh (Row w0 wr g (P ++ (B1.take t ++ (x :: (B1.drop t ++ (B2 ++ S))))) zs)) (fun kv _ => i - (intOf kv).toNat)
      case atStart => exact ⟨a, 0, rfl, ⟨rfl⟩, by omega, ⟨by simpa using HR1.out⟩⟩
      case round =>
        clear HR1
        obtain ⟨k, t, rfl, HK, hki, HR⟩ := hrel
        by_cases hk : k + 1 < i
        · have htB : t < B1.length := by have := HE.out; have := HK.out; omega
          obtain ⟨y, hy⟩ : ∃ y, y = B1[t] := ⟨_, rfl⟩
          have hyd : B1.drop t = y :: B1.drop (t + 1) := by rw [hy]; exact List.drop_eq_getElem_cons htB
          have hyt : B1.take (t + 1) = B1.take t ++ [y] := by rw [hy]; exact List.take_succ_eq_append_getElem htB
          have hR : Row w0 wr g ((P ++ B1.take t) ++ x :: ([] ++ y :: (B1.drop (t + 1) ++ (B2 ++ S)))) zs := HR.out.re (by rw [hyd]; simp)
          have hi : k = (P ++ B1.take t).length := by have := HE.out; have := HK.out; rw [List.length_append, List.length_take]; omega
          have hj : k + 1 = (P ++ B1.take t).length + 1 + ([] : List Pc).length := by rw [hi]; rfl
          have cx0 : wr.cell? ⟨g, k * 2, none⟩ = some (.int .i64 x.f0) := hR.c0 hi
          have cx1 : wr.cell? ⟨g, k * 2 + 1, none⟩ = some (.int .i64 x.f1) := hR.c1 hi
          have hr3 : Row w0 wr g (((P ++ B1.take t) ++ [x]) ++ y :: (B1.drop (t + 1) ++ (B2 ++ S))) zs := hR.re (by simp)
          have cy0 : wr.cell? ⟨g, (k + 1) * 2, none⟩ = some (.int .i64 y.f0) := hr3.c0 (by rw [hi]; simp; omega)
          have cy1 : wr.cell? ⟨g, (k + 1) * 2 + 1, none⟩ = some (.int .i64 y.f1) := hr3.c1 (by rw [hi]; simp; omega)
          have hr4 := hR.swap_lo hi hj
          have HR4 := Sh.mk (hr4.re (show (P ++ B1.take t) ++ y :: ([] ++ x :: (B1.drop (t + 1) ++ (B2 ++ S))) = P ++ (B1.take (t + 1) ++ (x :: (B1.drop (t + 1) ++ (B2 ++ S)))) by rw [hyt]; simp))
          obtain ⟨f1, f2, f3, f4⟩ := And.intro (hR.blk.frozen (k * 2)) (And.intro (hR.blk.frozen (k * 2 + 1)) (And.intro (hR.blk.frozen ((k + 1) * 2)) (hR.blk.frozen ((k + 1) * 2 + 1))))
          obtain ⟨y0, hy0⟩ : ∃ y0, y0 = y.f0 := ⟨_, rfl⟩
          obtain ⟨y1, hy1⟩ : ∃ y1, y1 = y.f1 := ⟨_, rfl⟩
          rw [← HX.out.1] at cx0 HR4
          rw [← HX.out.2] at cx1 HR4
          rw [← hy0] at cy0 HR4
          rw [← hy1] at cy1 HR4
          have e1 : ((k : Int) + 1).toNat = k + 1 := by omega
          have p1 : (0 : Int) ≤ (k : Int) + 1 := by omega
          have q1 : (k : Int) + 1 < (n : Int) := by omega
          have q2 : (k : Int) < (n : Int) := by omega
          have q3 : (k : Int) < (i : Int) - 1 := by omega
          have v2 : IntKind.i64.wrap ((k : Int) + 1) = (k : Int) + 1 := by rw [IntKind.wrap_i64]; omega
          clear hy hyd hyt hR hi hj hr3 hr4 HR hy0 hy1 htB
          go_wp2_with fail
          go_region
          go_wp2
          go_roundw
          case measure => simp [intOf]; omega
          case rel => exact ⟨k + 1, t + 1, by go_num, ⟨by have := HK.out; omega⟩, by omega, ⟨HR4.out.drew⟩⟩
        · have HR3 : Sh (Row w0 wr g (P ++ (sortP ([x] ++ B) ++ S)) zs) := ⟨by
            have h1 := HE.out; have h2 := HK.out
            have h3 : B1.take t = B1 := List.take_of_length_le (by omega)
            have h4 : B1.drop t = [] := List.drop_of_length_le (by omega)
            rw [HFIN.out]
            exact HR.out.re (by rw [h3, h4]; simp)⟩
          have q3 : ¬ (k : Int) < (i : Int) - 1 := by omega
          clear HR
          go_wp2
          (try simp only [Exit.inBlock, Exit.then]); refine bodyPost_ret (results_none rfl _ _ _) rfl ?_
          exact ⟨rfl, HR3.out⟩
set_option maxRecDepth 100000 in
set_option maxHeartbeats 8000000 in
theorem symm_right (cap : Nat) (P A : List Pc) (y : Pc) (S : List Pc) (n a m b : Nat) (w : World) (hrow : Row w0 w g (P ++ (A ++ (y :: S))) zs) (hA : Srt A) (hn : n = P.length + A.length + 1 + S.length) (ha : a = P.length) (hm : m = a + A.length) (hb : b = m + 1) (h2 : 2 ≤ A.length) (hmax : n ≤ 1000000) :
    Calls Try.prog 73 #[.slice (some ⟨g, 0, none⟩) n cap, .int .i64 a, .int .i64 m, .int .i64 b, .func (.func 57) #[] #[]] w fun e w' => e = .returned (.tuple #[]) ∧ Row w0 w' g (P ++ (sortP (A ++ [y]) ++ S)) zs := by
  have hu := Try.underlying58
  have HROW := Sh.mk hrow
  have HSA := Sh.mk hA
  have HL := Sh.mk (And.intro hn (And.intro ha (And.intro hm (And.intro hb h2))))
  have hmb : m < b := by omega
  have hbn : b ≤ n := by omega
  have ham : a < m := by omega
  have v1 : IntKind.i64.wrap ((m : Int) - (a : Int)) = (m : Int) - (a : Int) := by rw [IntKind.wrap_i64]; omega
  have v1' : (((m : Int) - (a : Int)) == 1) = false := beq_eq_false_iff_ne.2 (by omega)
  have v2 : IntKind.i64.wrap ((b : Int) - (m : Int)) = 1 := by rw [IntKind.wrap_i64]; omega
  obtain ⟨y0, hy0⟩ : ∃ y0, y0 = y.f0 := ⟨_, rfl⟩
  obtain ⟨y1, hy1⟩ : ∃ y1, y1 = y.f1 := ⟨_, rfl⟩
  have HY := Sh.mk (And.intro hy0 hy1)
  clear hrow hn ha hm hb hA hy0 hy1 h2
  go_enter Try.func73, Try.ntmps73
  go_wp2
  clear v1 v1' v2
  go_loopw [14, 15, 16] (fun iv jv hv wr => ∃ (i j : Nat), iv = .int .i64 i ∧ jv = .int .i64 j ∧ a ≤ i ∧ i ≤ j ∧ j ≤ m ∧ Sh (∀ u ∈ A.take (i - a), u.f0 ≤ y.f0) ∧ Sh (∀ u ∈ A.drop (j - a), y.f0 < u.f0) ∧ Sh (Row w0 wr g (P ++ (A ++ (y :: S))) zs)) (fun iv jv hv _ => (intOf jv).toNat - (intOf iv).toNat)
  case atStart => exact ⟨a, m, rfl, rfl, Nat.le_refl _, by omega, Nat.le_refl _, ⟨by simp⟩, ⟨by have := HL.out; rw [List.drop_of_length_le (by omega)]; simp⟩, HROW⟩
  case round =>
    obtain ⟨i, j, rfl, rfl, hai, hij, hjm, HLO, HHI, HR⟩ := hrel
    by_cases hlt : i < j
    · obtain ⟨h, hh⟩ : ∃ h, h = (i + j) / 2 := ⟨_, rfl⟩
      have e1 : ((i : Int) + (j : Int)) / 2 = (h : Int) := by omega
      have hih : i ≤ h := by omega
      have hhj : h < j := by omega
      have hhA : h - a < A.length := by have := HL.out; omega
      obtain ⟨x, hx⟩ : ∃ x, A[h - a]? = some x := ⟨_, List.getElem?_eq_getElem hhA⟩
      have hxl := (List.getElem?_eq_some_iff.1 hx).2
      have hdec : A = A.take (h - a) ++ x :: A.drop (h - a + 1) := by
        have := List.take_append_drop (h - a) A
        rw [List.drop_eq_getElem_cons hhA, hxl] at this
        exact this.symm
      have HX := Sh.mk hx
      have hR2 : Row w0 wr g ((P ++ A.take (h - a)) ++ x :: (A.drop (h - a + 1) ++ (y :: S))) zs := HR.out.re (show P ++ (A ++ (y :: S)) = (P ++ A.take (h - a)) ++ x :: (A.drop (h - a + 1) ++ (y :: S)) from (congrArg (fun q => P ++ (q ++ (y :: S))) hdec).trans (by simp))
      obtain ⟨x0, hx0⟩ : ∃ x0, x0 = x.f0 := ⟨_, rfl⟩
      obtain ⟨x1, hx1⟩ : ∃ x1, x1 = x.f1 := ⟨_, rfl⟩
      have cx0 : ∀ p : Bel wr, p.u.cell? ⟨g, h * 2, none⟩ = some (.int .i64 x0) := fun p => by rw [hx0]; exact (hR2.bel p).c0 (by have := HL.out; rw [List.length_append, List.length_take]; omega)
      have cx1 : ∀ p : Bel wr, p.u.cell? ⟨g, h * 2 + 1, none⟩ = some (.int .i64 x1) := fun p => by rw [hx1]; exact (hR2.bel p).c1 (by have := HL.out; rw [List.length_append, List.length_take]; omega)
      have hR3 : Row w0 wr g ((P ++ A) ++ y :: S) zs := HR.out.re (by simp)
      have cy0 : ∀ p : Bel wr, p.u.cell? ⟨g, m * 2, none⟩ = some (.int .i64 y0) := fun p => by rw [HY.out.1]; exact (hR3.bel p).c0 (by have := HL.out; rw [List.length_append]; omega)
      have cy1 : ∀ p : Bel wr, p.u.cell? ⟨g, m * 2 + 1, none⟩ = some (.int .i64 y1) := fun p => by rw [HY.out.2]; exact (hR3.bel p).c1 (by have := HL.out; rw [List.length_append]; omega)
      have HXX := Sh.mk hx0
      obtain ⟨v, hv⟩ : ∃ v, v = cmpI y0 x0 := ⟨_, rfl⟩
      have hcl : ∀ W, Calls Try.prog 57 #[.agg #[.int .i64 y0, .int .i64 y1], .agg #[.int .i64 x0, .int .i64 x1]] W fun e w' => e = .returned (.int .i64 v) ∧ Below W.heap.size W w' := fun W => by rw [hv]; exact clo_any y0 y1 x0 x1 W
      have HCL := Sh.mk hcl
      have hvl : decide (v < 0) = decide (y0 < x0) := by rw [hv]; exact cmpI_lt y0 x0
      have z1 : (h : Int) < (n : Int) := by omega
      have z2 : (m : Int) < (n : Int) := by omega
      have hhb : h < m := by omega
      clear hcl hv hdec hxl hx hR2 hR3 hx0 hx1 hhA hh
      by_cases hc : y0 < x0
      · have bv : decide (v < 0) = true := by rw [hvl]; exact decide_eq_true hc
        have HC := Sh.mk hc
        clear hvl hc
        go_wp2_with fail
        refine wp_region_below (by kernel_rfl) (by kernel_rfl) ?_
        repeat (go_big_quiet_step (first | (go_at_call 57; refine Calls.bel_of (HCL.out _))))
        refine wpQuiet_nil ?_
        intro _ hw'
        obtain ⟨p, hw''⟩ := hw'
        subst hw''
        have HR3 : Sh (Row w0 p.u g (P ++ (A ++ (y :: S))) zs) := ⟨HR.out.bel p⟩
        generalize p.u = w3 at HR3 ⊢
        clear HCL bv cx0 cx1 cy0 cy1
        go_wp2
        go_roundw
        case measure => simp [intOf]; omega
        case rel => exact ⟨i, h, rfl, rfl, hai, hih, by omega, HLO, ⟨by
          intro u hu
          have h1 := srt_drop HSA.out HX.out u hu
          have h2 := HC.out
          rw [HXX.out, HY.out.1] at h2
          omega⟩, HR3⟩
      · have bv : decide (v < 0) = false := by rw [hvl]; exact decide_eq_false hc
        have HC := Sh.mk hc
        clear hvl hc
        go_wp2_with fail
        refine wp_region_below (by kernel_rfl) (by kernel_rfl) ?_
        repeat (go_big_quiet_step (first | (go_at_call 57; refine Calls.bel_of (HCL.out _))))
        refine wpQuiet_nil ?_
        intro _ hw'
        obtain ⟨p, hw''⟩ := hw'
        subst hw''
        have HR3 : Sh (Row w0 p.u g (P ++ (A ++ (y :: S))) zs) := ⟨HR.out.bel p⟩
        generalize p.u = w3 at HR3 ⊢
        clear HCL bv cx0 cx1 cy0 cy1
        go_wp2
        go_roundw
        case measure => simp [intOf]; omega
        case rel => exact ⟨h + 1, j, by go_num, rfl, by omega, by omega, hjm, ⟨by
          rw [show h + 1 - a = h - a + 1 by omega]
          intro u hu
          have h1 := srt_take HSA.out HX.out u hu
          have h2 := HC.out
          rw [HXX.out, HY.out.1] at h2
          omega⟩, HHI, HR3⟩
    · obtain rfl : i = j := by omega
      obtain ⟨A1, hA1⟩ : ∃ A1, A1 = A.take (i - a) := ⟨_, rfl⟩
      obtain ⟨A2, hA2⟩ : ∃ A2, A2 = A.drop (i - a) := ⟨_, rfl⟩
      have hAA : A = A1 ++ A2 := by rw [hA1, hA2, List.take_append_drop]
      have hl1 : i = a + A1.length := by have := HL.out; rw [hA1, List.length_take]; omega
      have hl2 : m = i + A2.length := by have := HL.out; rw [hA2, List.length_drop]; omega
      have HFIN : Sh (sortP (A ++ [y]) = A1 ++ y :: A2) := ⟨by
        rw [hAA]
        exact sortP_right y A1 A2 (by rw [← hAA]; exact HSA.out) (by rw [hA1]; exact HLO.out) (by rw [hA2]; exact HHI.out)⟩
      have HR1 : Sh (Row w0 wr g (P ++ (A1 ++ (A2 ++ (y :: S)))) zs) := ⟨HR.out.re (by rw [hAA]; simp)⟩
      have HE : Sh (i = a + A1.length ∧ m = i + A2.length ∧ a = P.length) := ⟨⟨hl1, hl2, HL.out.2.1⟩⟩
      clear hAA hl1 hl2 hA1 hA2 HR HLO HHI
      go_wp2
      go_loopw [17] (fun kv wr => ∃ (k t : Nat), kv = .int .i64 k ∧ Sh (k = i + t) ∧ k ≤ m ∧ Sh (Row w0 wr g (P ++ (A1 ++ (A2.take t ++ (y :: (A2.drop t ++ S))))) zs)) (fun kv _ => (intOf kv).toNat)
      case atStart => exact ⟨m, A2.length, rfl, ⟨HE.out.2.1⟩, Nat.le_refl _, ⟨HR1.out.re (by simp)⟩⟩
      case round =>
        clear HR1
        obtain ⟨k, t, rfl, HK, hkm, HR⟩ := hrel
        by_cases hk : i < k
        · obtain ⟨t, rfl⟩ : ∃ t', t = t' + 1 := ⟨t - 1, by have := HK.out; omega⟩
          obtain ⟨k, rfl⟩ : ∃ k', k = k' + 1 := ⟨k - 1, by omega⟩
          by_cases htA : t < A2.length
          · obtain ⟨x, hx⟩ : ∃ x, x = A2[t] := ⟨_, rfl⟩
            have hxd : A2.drop t = x :: A2.drop (t + 1) := by rw [hx]; exact List.drop_eq_getElem_cons htA
            have hxt : A2.take (t + 1) = A2.take t ++ [x] := by rw [hx]; exact List.take_succ_eq_append_getElem htA
            have hR : Row w0 wr g ((P ++ (A1 ++ A2.take t)) ++ x :: ([] ++ y :: (A2.drop (t + 1) ++ S))) zs := HR.out.re (by rw [hxt]; simp)
            have hi : k = (P ++ (A1 ++ A2.take t)).length := by have := HE.out; have := HK.out; rw [List.length_append, List.length_append, List.length_take]; omega
            have hj : k + 1 = (P ++ (A1 ++ A2.take t)).length + 1 + ([] : List Pc).length := by rw [hi]; rfl
            have cx0 : wr.cell? ⟨g, k * 2, none⟩ = some (.int .i64 x.f0) := hR.c0 hi
            have cx1 : wr.cell? ⟨g, k * 2 + 1, none⟩ = some (.int .i64 x.f1) := hR.c1 hi
            have hr3 : Row w0 wr g (((P ++ (A1 ++ A2.take t)) ++ [x]) ++ y :: (A2.drop (t + 1) ++ S)) zs := hR.re (by simp)
            have cy0 : wr.cell? ⟨g, (k + 1) * 2, none⟩ = some (.int .i64 y.f0) := hr3.c0 (by rw [hi]; simp; omega)
            have cy1 : wr.cell? ⟨g, (k + 1) * 2 + 1, none⟩ = some (.int .i64 y.f1) := hr3.c1 (by rw [hi]; simp; omega)
            have hr4 := hR.swap_hi hi hj
            have HR4 := Sh.mk (hr4.re (show (P ++ (A1 ++ A2.take t)) ++ y :: ([] ++ x :: (A2.drop (t + 1) ++ S)) = P ++ (A1 ++ (A2.take t ++ (y :: (A2.drop t ++ S)))) by rw [hxd]; simp))
            obtain ⟨f1, f2, f3, f4⟩ := And.intro (hR.blk.frozen (k * 2)) (And.intro (hR.blk.frozen (k * 2 + 1)) (And.intro (hR.blk.frozen ((k + 1) * 2)) (hR.blk.frozen ((k + 1) * 2 + 1))))
            obtain ⟨x0, hx0⟩ : ∃ x0, x0 = x.f0 := ⟨_, rfl⟩
            obtain ⟨x1, hx1⟩ : ∃ x1, x1 = x.f1 := ⟨_, rfl⟩
            rw [← HY.out.1] at cy0 HR4
            rw [← HY.out.2] at cy1 HR4
            rw [← hx0] at cx0 HR4
            rw [← hx1] at cx1 HR4
            have e1 : ((k : Int) + 1).toNat = k + 1 := by omega
            have p1 : (0 : Int) ≤ (k : Int) + 1 := by omega
            have q1 : (k : Int) + 1 < (n : Int) := by omega
            have q2 : (k : Int) < (n : Int) := by omega
            have q3 : (i : Int) < (k : Int) + 1 := by omega
            have v2 : IntKind.i64.wrap (k : Int) = (k : Int) := by rw [IntKind.wrap_i64]; omega
            clear hx hxd hxt hR hi hj hr3 hr4 HR hx0 hx1 htA
            go_wp2_with fail
            go_region
            go_wp2
            go_roundw
            case measure => first | (simp [intOf]; done) | (simp [intOf]; omega)
            case rel => exact ⟨k, t, by go_num, ⟨by have := HK.out; omega⟩, by omega, ⟨HR4.out.drew⟩⟩
          · exact absurd HE.out.2.1 (by have := HK.out; omega)
        · have HR3 : Sh (Row w0 wr g (P ++ (sortP (A ++ [y]) ++ S)) zs) := ⟨by
            have h1 := HE.out; have h2 := HK.out
            obtain rfl : t = 0 := by omega
            rw [HFIN.out]
            exact HR.out.re (by simp)⟩
          have q3 : ¬ (i : Int) < (k : Int) := by omega
          clear HR
          go_wp2
          (try simp only [Exit.inBlock, Exit.then]); refine bodyPost_ret (results_none rfl _ _ _) rfl ?_
          exact ⟨rfl, HR3.out⟩
end Go.Proofs.Ythbknmblehecaaa
