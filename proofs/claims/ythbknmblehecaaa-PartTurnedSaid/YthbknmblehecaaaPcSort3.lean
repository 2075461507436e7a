/- slices.symMergeCmpFunc, stableCmpFunc, SortStableFunc at pieces: contracts. No statement is proved here. -/
import Derived.Test.YthbknmblehecaaaPcSort2
namespace Go.Proofs.Ythbknmblehecaaa
set_option linter.unusedVariables false
set_option linter.unusedSimpArgs false
open Go.RowKit Go.Proofs.YthbknmblehecaaaW.PrintWords Go.Proofs.YthbknmblehecaaaW.PrintLast Go.Proofs.YthbknmblehecaaaW.PrintMore Pr Go.Proofs.Ythbknmblehecaaa.Pure
variable {w0 : World} {g : Nat} {zs : List Value}

/-- What a merge of two stretches answers. -/
def Symm (w0 : World) (g : Nat) (zs : List Value) (cap : Nat) (P A B S : List Pc) : Prop :=
  ∀ (n a m b : Nat) (w : World), Row w0 w g (P ++ (A ++ (B ++ S))) zs → Srt A → Srt B → 1 ≤ A.length → 1 ≤ B.length → n = P.length + A.length + B.length + S.length → a = P.length → m = a + A.length → b = m + B.length → n ≤ 1000000 →
    Calls Try.prog 73 #[.slice (some ⟨g, 0, none⟩) n cap, .int .i64 a, .int .i64 m, .int .i64 b, .func (.func 57) #[] #[]] w fun e w' => e = .returned (.tuple #[]) ∧ Row w0 w' g (P ++ (sortP (A ++ B) ++ S)) zs

set_option maxRecDepth 100000 in
set_option maxHeartbeats 16000000 in
theorem symm_gen (cap : Nat) (P A B S : List Pc) (n a m b : Nat) (w : World) (hrow : Row w0 w g (P ++ (A ++ (B ++ S))) zs) (hA : Srt A) (hB : Srt B) (h2a : 2 ≤ A.length) (h2b : 2 ≤ B.length) (hn : n = P.length + A.length + B.length + S.length) (ha : a = P.length) (hm : m = a + A.length) (hb : b = m + B.length) (hmax : n ≤ 1000000)
    (ih : ∀ P' A' B' S' : List Pc, A'.length + B'.length < A.length + B.length → Symm w0 g zs cap P' A' B' S') :
    Calls Try.prog 73 #[.slice (some ⟨g, 0, none⟩) n cap, .int .i64 a, .int .i64 m, .int .i64 b, .func (.func 57) #[] #[]] w fun e w' => e = .returned (.tuple #[]) ∧ Row w0 w' g (P ++ (sortP (A ++ B) ++ S)) zs := by
  have hu := Try.underlying58
  have HROW := Sh.mk hrow
  have HSA := Sh.mk hA
  have HSB := Sh.mk hB
  have HIH := Sh.mk ih
  have HL := Sh.mk (And.intro hn (And.intro ha (And.intro hm (And.intro hb (And.intro h2a h2b)))))
  have hmb : m + 2 ≤ b := by omega
  have hbn : b ≤ n := by omega
  have ham : a + 2 ≤ m := by omega
  have v1 : IntKind.i64.wrap ((m : Int) - (a : Int)) = (m : Int) - (a : Int) := by rw [IntKind.wrap_i64]; omega
  have v1' : (((m : Int) - (a : Int)) == 1) = false := beq_eq_false_iff_ne.2 (by omega)
  have v2 : IntKind.i64.wrap ((b : Int) - (m : Int)) = (b : Int) - (m : Int) := by rw [IntKind.wrap_i64]; omega
  have v2' : (((b : Int) - (m : Int)) == 1) = false := beq_eq_false_iff_ne.2 (by omega)
  obtain ⟨mid, hmid⟩ : ∃ mid, mid = (a + b) / 2 := ⟨_, rfl⟩
  have e1 : ((a : Int) + (b : Int)) / 2 = (mid : Int) := by omega
  have v3 : IntKind.i64.wrap ((mid : Int) + (m : Int)) = ((mid + m : Nat) : Int) := by rw [IntKind.wrap_i64]; omega
  have HMID := Sh.mk hmid
  obtain ⟨N, hN⟩ : ∃ N, N = mid + m := ⟨_, rfl⟩
  rw [← hN] at v3
  have v4 : IntKind.i64.wrap ((N : Int) - (b : Int)) = ((N - b : Nat) : Int) ∨ m ≤ mid := by
    by_cases h : m ≤ mid
    · exact .inr h
    · exact .inl (by rw [IntKind.wrap_i64]; omega)
  have v5 : IntKind.i64.wrap ((N : Int) - 1) = ((N - 1 : Nat) : Int) := by rw [IntKind.wrap_i64]; omega
  have HNE := Sh.mk hN
  obtain ⟨p, hp⟩ : ∃ p, p = N - 1 := ⟨_, rfl⟩
  rw [← hp] at v5
  have HP := Sh.mk hp
  have hmidb : a < mid ∧ mid < b := by omega
  have hNb : N ≤ 2000000 := by omega
  clear hrow hn ha hm hb hA hB h2a h2b ih hmid hN hp
  -- behind the search
  have REST : ∀ (st : Nat), a ≤ st → N ≤ st + b → st ≤ m → st ≤ mid → (∀ x ∈ A.take (st - a), ∀ y ∈ B.drop (N - st - m), x.f0 ≤ y.f0) → (∀ x ∈ B.take (N - st - m), ∀ y ∈ A.drop (st - a), x.f0 < y.f0) →
      ∃ A1 A2 B1 B2 : List Pc, A = A1 ++ A2 ∧ B = B1 ++ B2 ∧ st = a + A1.length ∧ m = st + A2.length ∧ N - st = m + B1.length ∧ b = N - st + B2.length ∧ mid = st + B1.length ∧ N - st = mid + A2.length ∧ sortP (A ++ B) = sortP (A1 ++ B1) ++ sortP (A2 ++ B2) ∧ Srt A1 ∧ Srt A2 ∧ Srt B1 ∧ Srt B2 := by
    intro st g1 g2 g3 g4 g5 g6
    have hL := HL.out
    have hM := HMID.out
    have hE := HNE.out
    refine ⟨A.take (st - a), A.drop (st - a), B.take (N - st - m), B.drop (N - st - m), (List.take_append_drop _ _).symm, (List.take_append_drop _ _).symm, by rw [List.length_take]; omega, by rw [List.length_drop]; omega, by rw [List.length_take]; omega, by rw [List.length_drop]; omega, by rw [List.length_take]; omega, by rw [List.length_drop]; omega, ?_, ?_, ?_, ?_, ?_⟩
    · have h := sortP_merge (a1 := A.take (st - a)) (a2 := A.drop (st - a)) (b1 := B.take (N - st - m)) (b2 := B.drop (N - st - m)) (by rw [List.take_append_drop]; exact HSA.out) (by rw [List.take_append_drop]; exact HSB.out) g5 g6
      rwa [List.take_append_drop, List.take_append_drop] at h
    · exact srt_left (b := A.drop (st - a)) (by rw [List.take_append_drop]; exact HSA.out)
    · exact srt_right (a := A.take (st - a)) (by rw [List.take_append_drop]; exact HSA.out)
    · exact srt_left (b := B.drop (N - st - m)) (by rw [List.take_append_drop]; exact HSB.out)
    · exact srt_right (a := B.take (N - st - m)) (by rw [List.take_append_drop]; exact HSB.out)
  have HREST := Sh.mk REST
  clear REST
  have START : ∃ s0 r0 : Nat, (m > mid → s0 = N - b ∧ r0 = mid) ∧ (¬ m > mid → s0 = a ∧ r0 = m) ∧ a ≤ s0 ∧ N ≤ s0 + b ∧ s0 ≤ r0 ∧ r0 ≤ m ∧ r0 ≤ mid ∧ (∀ x ∈ A.take (s0 - a), ∀ y ∈ B.drop (N - s0 - m), x.f0 ≤ y.f0) ∧ (∀ x ∈ B.take (N - r0 - m), ∀ y ∈ A.drop (r0 - a), x.f0 < y.f0) := by
    have hL := HL.out
    have hM := HMID.out
    have hE := HNE.out
    by_cases h : m > mid
    · refine ⟨N - b, mid, fun _ => ⟨rfl, rfl⟩, fun h' => absurd h h', by omega, by omega, by omega, by omega, Nat.le_refl _, ?_, ?_⟩
      · rw [List.drop_of_length_le (show B.length ≤ N - (N - b) - m by omega)]; simp
      · rw [show N - mid - m = 0 by omega]; simp
    · refine ⟨a, m, fun h' => absurd h' h, fun _ => ⟨rfl, rfl⟩, Nat.le_refl _, by omega, by omega, Nat.le_refl _, by omega, ?_, ?_⟩
      · rw [Nat.sub_self]; simp
      · rw [List.drop_of_length_le (show A.length ≤ m - a by omega)]; simp
  obtain ⟨s0, r0, hs1, hs2, hs3, hs4, hs5, hs6, hs7, hs8, hs9⟩ := START
  have HS8 := Sh.mk hs8
  have HS9 := Sh.mk hs9
  have HS34 : Sh (a ≤ s0 ∧ N ≤ s0 + b ∧ s0 ≤ r0 ∧ r0 ≤ m ∧ r0 ≤ mid) := ⟨⟨hs3, hs4, hs5, hs6, hs7⟩⟩
  clear hs8 hs9
  have KEY : (m > mid ∧ Sh (s0 = N - b) ∧ Sh (r0 = mid) ∧ IntKind.i64.wrap ((N : Int) - (b : Int)) = ((N - b : Nat) : Int)) ∨ (¬ m > mid ∧ Sh (s0 = a) ∧ Sh (r0 = m) ∧ True) := by
    by_cases h : m > mid
    · rcases v4 with v4 | v4
      · exact .inl ⟨h, ⟨(hs1 h).1⟩, ⟨(hs1 h).2⟩, v4⟩
      · omega
    · exact .inr ⟨h, ⟨(hs2 h).1⟩, ⟨(hs2 h).2⟩, trivial⟩
  clear hs1 hs2 v4 hs3 hs4 hs5 hs6 hs7
  rcases KEY with ⟨hgt, HE1, HE2, v4⟩ | ⟨hgt, HE1, HE2, v4⟩
  all_goals
    go_enter Try.func73, Try.ntmps73
    go_wp2
    clear v4
    clear v1 v1' v2 v2' e1 v3
    go_loopw [20, 21, 23] (fun sv rv cv wr => ∃ (s r : Nat), sv = .int .i64 s ∧ rv = .int .i64 r ∧ s ≤ r ∧ Sh (a ≤ s ∧ N ≤ s + b ∧ r ≤ m ∧ r ≤ mid) ∧ Sh (∀ x ∈ A.take (s - a), ∀ y ∈ B.drop (N - s - m), x.f0 ≤ y.f0) ∧ Sh (∀ x ∈ B.take (N - r - m), ∀ y ∈ A.drop (r - a), x.f0 < y.f0) ∧ Sh (Row w0 wr g (P ++ (A ++ (B ++ S))) zs)) (fun sv rv cv _ => (intOf rv).toNat - (intOf sv).toNat)
    case atStart => exact ⟨s0, r0, by rw [HE1.out], by rw [HE2.out], HS34.out.2.2.1, ⟨⟨HS34.out.1, HS34.out.2.1, HS34.out.2.2.2⟩⟩, HS8, HS9, HROW⟩
    case round =>
      clear HS8 HS9 HS34 HROW
      obtain ⟨s, r, rfl, rfl, hsr, HBD, HLO, HHI, HR⟩ := hrel
      by_cases hlt : s < r
      · obtain ⟨c, hc⟩ : ∃ c, c = (s + r) / 2 := ⟨_, rfl⟩
        have hbd := HBD.out
        have hL := HL.out
        have hM := HMID.out
        have hE := HNE.out
        have hP := HP.out
        have e1 : ((s : Int) + (r : Int)) / 2 = (c : Int) := by omega
        have hsc : s ≤ c := by omega
        have hcr : c < r := by omega
        obtain ⟨d, hd⟩ : ∃ d, d = p - c := ⟨_, rfl⟩
        have v6 : IntKind.i64.wrap ((p : Int) - (c : Int)) = (d : Int) := by rw [IntKind.wrap_i64]; omega
        have hdm : m ≤ d ∧ d < b := by omega
        obtain ⟨x, hx⟩ : ∃ x, A[c - a]? = some x := ⟨_, List.getElem?_eq_getElem (by omega)⟩
        obtain ⟨y, hy⟩ : ∃ y, B[d - m]? = some y := ⟨_, List.getElem?_eq_getElem (by omega)⟩
        obtain ⟨hcA, hxl⟩ := List.getElem?_eq_some_iff.1 hx
        obtain ⟨hdB, hyl⟩ := List.getElem?_eq_some_iff.1 hy
        have hdA : A = A.take (c - a) ++ x :: A.drop (c - a + 1) := by
          have := List.take_append_drop (c - a) A
          rw [List.drop_eq_getElem_cons hcA, hxl] at this
          exact this.symm
        have hdB' : B = B.take (d - m) ++ y :: B.drop (d - m + 1) := by
          have := List.take_append_drop (d - m) B
          rw [List.drop_eq_getElem_cons hdB, hyl] at this
          exact this.symm
        have HX := Sh.mk hx
        have HY := Sh.mk hy
        have hR2 : Row w0 wr g ((P ++ A.take (c - a)) ++ x :: (A.drop (c - a + 1) ++ (B ++ S))) zs := HR.out.re ((congrArg (fun q => P ++ (q ++ (B ++ S))) hdA).trans (by simp))
        have hR3 : Row w0 wr g ((P ++ (A ++ B.take (d - m))) ++ y :: (B.drop (d - m + 1) ++ S)) zs := HR.out.re ((congrArg (fun q => P ++ (A ++ (q ++ S))) hdB').trans (by simp))
        obtain ⟨x0, hx0⟩ : ∃ x0, x0 = x.f0 := ⟨_, rfl⟩
        obtain ⟨x1, hx1⟩ : ∃ x1, x1 = x.f1 := ⟨_, rfl⟩
        obtain ⟨y0, hy0⟩ : ∃ y0, y0 = y.f0 := ⟨_, rfl⟩
        obtain ⟨y1, hy1⟩ : ∃ y1, y1 = y.f1 := ⟨_, rfl⟩
        have cx0 : ∀ p : Bel wr, p.u.cell? ⟨g, c * 2, none⟩ = some (.int .i64 x0) := fun p => by rw [hx0]; exact (hR2.bel p).c0 (by rw [List.length_append, List.length_take]; omega)
        have cx1 : ∀ p : Bel wr, p.u.cell? ⟨g, c * 2 + 1, none⟩ = some (.int .i64 x1) := fun p => by rw [hx1]; exact (hR2.bel p).c1 (by rw [List.length_append, List.length_take]; omega)
        have cy0 : ∀ p : Bel wr, p.u.cell? ⟨g, d * 2, none⟩ = some (.int .i64 y0) := fun p => by rw [hy0]; exact (hR3.bel p).c0 (by rw [List.length_append, List.length_append, List.length_take]; omega)
        have cy1 : ∀ p : Bel wr, p.u.cell? ⟨g, d * 2 + 1, none⟩ = some (.int .i64 y1) := fun p => by rw [hy1]; exact (hR3.bel p).c1 (by rw [List.length_append, List.length_append, List.length_take]; omega)
        have HXX := Sh.mk (And.intro hx0 hy0)
        obtain ⟨v, hv⟩ : ∃ v, v = cmpI y0 x0 := ⟨_, rfl⟩
        have hcl : ∀ W, Calls Try.prog 57 #[.agg #[.int .i64 y0, .int .i64 y1], .agg #[.int .i64 x0, .int .i64 x1]] W fun e w' => e = .returned (.int .i64 v) ∧ Below W.heap.size W w' := fun W => by rw [hv]; exact clo_any y0 y1 x0 x1 W
        have HCL := Sh.mk hcl
        have hvl : decide (v < 0) = decide (y0 < x0) := by rw [hv]; exact cmpI_lt y0 x0
        have z1 : (c : Int) < (n : Int) := by omega
        have z2 : (d : Int) < (n : Int) := by omega
        have HD : Sh (d = p - c ∧ d = N - 1 - c ∧ m ≤ d ∧ d < b ∧ a ≤ c) := ⟨by omega⟩
        have HC1 : Sh (N - (c + 1) - m = d - m ∧ c + 1 - a = c - a + 1 ∧ N - c - m = d - m + 1) := ⟨by omega⟩
        have HBD2 : Sh ((a ≤ c + 1 ∧ N ≤ c + 1 + b ∧ r ≤ m ∧ r ≤ mid) ∧ (a ≤ s ∧ N ≤ s + b ∧ c ≤ m ∧ c ≤ mid)) := ⟨by omega⟩
        clear hbd hL hM hE hP hcl hv hdA hdB' hyl hxl hx hy hR2 hR3 hx0 hx1 hy0 hy1 hcA hdB hc hd hdm
        by_cases hc : y0 < x0
        · have bv : decide (v < 0) = true := by rw [hvl]; exact decide_eq_true hc
          have HC := Sh.mk hc
          clear hvl hc
          go_wp2_with fail
          refine wp_region_below (by kernel_rfl) (by kernel_rfl) ?_
          repeat (go_big_quiet_step (first | (go_at_call 57; refine Calls.bel_of (HCL.out _))))
          refine wpQuiet_nil ?_
          intro _ hw'
          obtain ⟨p, hw''⟩ := hw'
          subst hw''
          have HR3 : Sh (Row w0 p.u g (P ++ (A ++ (B ++ S))) zs) := ⟨HR.out.bel p⟩
          generalize p.u = w3 at HR3 ⊢
          clear HCL bv cx0 cx1 cy0 cy1
          go_wp2
          go_roundw
          case measure => simp [intOf]; omega
          case rel => exact ⟨s, c, rfl, rfl, hsc, ⟨HBD2.out.2⟩, HLO, ⟨by
            rw [HC1.out.2.2]
            exact bound_lt HSB.out HSA.out HY.out HX.out (by have h2 := HC.out; rw [HXX.out.1, HXX.out.2] at h2; exact h2)⟩, HR3⟩
        · have bv : decide (v < 0) = false := by rw [hvl]; exact decide_eq_false hc
          have HC := Sh.mk hc
          clear hvl hc
          go_wp2_with fail
          refine wp_region_below (by kernel_rfl) (by kernel_rfl) ?_
          repeat (go_big_quiet_step (first | (go_at_call 57; refine Calls.bel_of (HCL.out _))))
          refine wpQuiet_nil ?_
          intro _ hw'
          obtain ⟨p, hw''⟩ := hw'
          subst hw''
          have HR3 : Sh (Row w0 p.u g (P ++ (A ++ (B ++ S))) zs) := ⟨HR.out.bel p⟩
          generalize p.u = w3 at HR3 ⊢
          clear HCL bv cx0 cx1 cy0 cy1
          go_wp2
          go_roundw
          case measure => simp [intOf]; omega
          case rel => exact ⟨c + 1, r, by go_num, rfl, by omega, ⟨HBD2.out.1⟩, ⟨by
            rw [HC1.out.1, HC1.out.2.1]
            exact bound_le HSA.out HSB.out HX.out HY.out (by have h2 := HC.out; rw [HXX.out.1, HXX.out.2] at h2; omega)⟩, HHI, HR3⟩
      · obtain rfl : s = r := by omega
        obtain ⟨A1, A2, B1, B2, eA, eB, l1, l2, l3, l4, l5, l6, hfin, sA1, sA2, sB1, sB2⟩ := HREST.out s HBD.out.1 HBD.out.2.1 HBD.out.2.2.1 HBD.out.2.2.2 HLO.out HHI.out
        subst eA
        subst eB
        obtain ⟨E, hE⟩ : ∃ E, E = N - s := ⟨_, rfl⟩
        have hN2 : s ≤ N := by have := HBD.out; have := HNE.out; omega
        have v6 : IntKind.i64.wrap ((N : Int) - (s : Int)) = (E : Int) := by rw [IntKind.wrap_i64]; omega
        rw [← hE] at l3 l4 l6
        have hL := HL.out
        simp only [List.length_append] at hL
        have HLL : Sh (a = P.length ∧ s = a + A1.length ∧ m = s + A2.length ∧ E = m + B1.length ∧ b = E + B2.length ∧ mid = s + B1.length ∧ E = mid + A2.length ∧ n = b + S.length) := ⟨by omega⟩
        have hsm : s ≤ m := by omega
        have hmE : m ≤ E := by omega
        have has : a ≤ s := by omega
        have hEb : E ≤ b := by omega
        have hsmid : s ≤ mid := by omega
        have hmidE : mid ≤ E := by omega
        have HFIN := Sh.mk hfin
        have HSS := Sh.mk (And.intro sA1 (And.intro sA2 (And.intro sB1 sB2)))
        have HR1 : Sh (Row w0 wr g (P ++ (A1 ++ (A2 ++ (B1 ++ (B2 ++ S))))) zs) := ⟨HR.out.re (by simp)⟩
        clear l1 l2 l3 l4 l5 l6 hfin sA1 sA2 sB1 sB2 hE hN2 hL HR HLO HHI HREST HBD HL HSA HSB
        have HC0 : Sh (s < m → m < E → Calls Try.prog 75 #[.slice (some ⟨g, 0, none⟩) n cap, .int .i64 s, .int .i64 m, .int .i64 E, .func (.func 57) #[] #[]] wr fun e w' => e = .returned (.tuple #[]) ∧ Row w0 w' g (P ++ (A1 ++ (B1 ++ (A2 ++ (B2 ++ S))))) zs) := ⟨fun h1 h2 => by
          have hL := HLL.out
          exact (rotate_any cap (P ++ A1) A2 B1 (B2 ++ S) n s m E _ wr (HR1.out.re (by simp)) (by simp only [List.length_append]; omega) (by rw [List.length_append]; omega) (by rw [List.length_append]; omega) (by rw [List.length_append]; omega) (by omega) (by omega) hmax).mono fun e w' h => ⟨h.1, h.2.re (by simp)⟩⟩
        have HN0 : Sh (¬ (s < m ∧ m < E) → Row w0 wr g (P ++ (A1 ++ (B1 ++ (A2 ++ (B2 ++ S))))) zs) := ⟨fun h => by
          have hL := HLL.out
          refine HR1.out.re ?_
          by_cases hh : s < m
          · have : B1 = [] := List.eq_nil_of_length_eq_zero (by omega)
            rw [this]; simp
          · have : A2 = [] := List.eq_nil_of_length_eq_zero (by omega)
            rw [this]; simp⟩
        have HC1 : Sh (∀ W : World, Row w0 W g (P ++ (A1 ++ (B1 ++ (A2 ++ (B2 ++ S))))) zs → a < s → s < mid → Calls Try.prog 73 #[.slice (some ⟨g, 0, none⟩) n cap, .int .i64 a, .int .i64 s, .int .i64 mid, .func (.func 57) #[] #[]] W fun e w' => e = .returned (.tuple #[]) ∧ Row w0 w' g (P ++ (sortP (A1 ++ B1) ++ (A2 ++ (B2 ++ S)))) zs) := ⟨fun W hW h1 h2 => by
          have hL := HLL.out
          exact HIH.out P A1 B1 (A2 ++ (B2 ++ S)) (by simp only [List.length_append]; omega) n a s mid W hW HSS.out.1 HSS.out.2.2.1 (by omega) (by omega) (by simp only [List.length_append]; omega) (by omega) (by omega) (by omega) hmax⟩
        have HN1 : Sh (∀ W : World, Row w0 W g (P ++ (A1 ++ (B1 ++ (A2 ++ (B2 ++ S))))) zs → ¬ (a < s ∧ s < mid) → Row w0 W g (P ++ (sortP (A1 ++ B1) ++ (A2 ++ (B2 ++ S)))) zs) := ⟨fun W hW h => by
          have hL := HLL.out
          refine hW.re ?_
          by_cases hh : a < s
          · have : B1 = [] := List.eq_nil_of_length_eq_zero (by omega)
            rw [this, List.append_nil, sortP_of_srt HSS.out.1]; simp
          · have : A1 = [] := List.eq_nil_of_length_eq_zero (by omega)
            rw [this, List.nil_append, List.nil_append, sortP_of_srt HSS.out.2.2.1]⟩
        have HC2 : Sh (∀ W : World, Row w0 W g (P ++ (sortP (A1 ++ B1) ++ (A2 ++ (B2 ++ S)))) zs → mid < E → E < b → Calls Try.prog 73 #[.slice (some ⟨g, 0, none⟩) n cap, .int .i64 mid, .int .i64 E, .int .i64 b, .func (.func 57) #[] #[]] W fun e w' => e = .returned (.tuple #[]) ∧ Row w0 w' g (P ++ (sortP ((A1 ++ A2) ++ (B1 ++ B2)) ++ S)) zs) := ⟨fun W hW h1 h2 => by
          have hL := HLL.out
          have hs := sortP_length (A1 ++ B1)
          rw [List.length_append] at hs
          rw [HFIN.out]
          exact (HIH.out (P ++ sortP (A1 ++ B1)) A2 B2 S (by simp only [List.length_append]; omega) n mid E b W (hW.re (by simp)) HSS.out.2.1 HSS.out.2.2.2 (by omega) (by omega) (by simp only [List.length_append]; omega) (by rw [List.length_append]; omega) (by omega) (by omega) hmax).mono fun e w' h => ⟨h.1, h.2.re (by simp)⟩⟩
        have HN2 : Sh (∀ W : World, Row w0 W g (P ++ (sortP (A1 ++ B1) ++ (A2 ++ (B2 ++ S)))) zs → ¬ (mid < E ∧ E < b) → Row w0 W g (P ++ (sortP ((A1 ++ A2) ++ (B1 ++ B2)) ++ S)) zs) := ⟨fun W hW h => by
          have hL := HLL.out
          rw [HFIN.out]
          refine hW.re ?_
          by_cases hh : mid < E
          · have : B2 = [] := List.eq_nil_of_length_eq_zero (by omega)
            rw [this, List.append_nil, sortP_of_srt HSS.out.2.1]; simp
          · have : A2 = [] := List.eq_nil_of_length_eq_zero (by omega)
            rw [this, List.nil_append, List.nil_append, sortP_of_srt HSS.out.2.2.2]; simp⟩
        clear HFIN HSS HIH HR1 HLL
        rcases (show (s < m ∧ m < E) ∨ (¬ s < m) ∨ (s < m ∧ ¬ m < E) by omega) with ⟨c1, c2⟩ | c1 | ⟨c1, c2⟩
        focus
          go_wp2_with fail
          (with_reducible refine (HC0.out c1 c2).mono ?_); rintro e wx ⟨rfl, hR⟩
          have HR2 := Sh.mk hR
          clear hR HC0 HN0
        rotate_left
        focus
          have HR2 := Sh.mk (HN0.out (fun h => c1 h.1))
          clear HC0 HN0
          obtain ⟨wx, hwx⟩ : ∃ x, x = wr := ⟨_, rfl⟩
          subst hwx
        rotate_left
        focus
          have HR2 := Sh.mk (HN0.out (fun h => c2 h.2))
          clear HC0 HN0
          obtain ⟨wx, hwx⟩ : ∃ x, x = wr := ⟨_, rfl⟩
          subst hwx
        all_goals
          rcases (show (a < s ∧ s < mid) ∨ (¬ a < s) ∨ (a < s ∧ ¬ s < mid) by omega) with ⟨d1, d2⟩ | d1 | ⟨d1, d2⟩
          focus
            go_wp2_with fail
            (with_reducible refine (HC1.out wx HR2.out d1 d2).mono ?_); rintro e wy ⟨rfl, hR⟩
            have HR3 := Sh.mk hR
            clear hR HC1 HN1
          rotate_left
          focus
            have HR3 := Sh.mk (HN1.out wx HR2.out (fun h => d1 h.1))
            clear HC1 HN1
            obtain ⟨wy, hwy⟩ : ∃ x, x = wx := ⟨_, rfl⟩
            subst hwy
          rotate_left
          focus
            have HR3 := Sh.mk (HN1.out wx HR2.out (fun h => d2 h.2))
            clear HC1 HN1
            obtain ⟨wy, hwy⟩ : ∃ x, x = wx := ⟨_, rfl⟩
            subst hwy
          all_goals
            rcases (show (mid < E ∧ E < b) ∨ (¬ mid < E) ∨ (mid < E ∧ ¬ E < b) by omega) with ⟨f1, f2⟩ | f1 | ⟨f1, f2⟩
            · go_wp2_with fail
              (with_reducible refine (HC2.out wy HR3.out f1 f2).mono ?_); rintro e wz ⟨rfl, hR⟩
              have HR4 := Sh.mk hR
              clear hR HC2 HN2
              go_wp2
              go_end0
              exact ⟨rfl, HR4.out⟩
            · have HR4 := Sh.mk (HN2.out wy HR3.out (fun h => f1 h.1))
              clear HC2 HN2
              go_wp2
              go_end0
              exact ⟨rfl, HR4.out⟩
            · have HR4 := Sh.mk (HN2.out wy HR3.out (fun h => f2 h.2))
              clear HC2 HN2
              go_wp2
              go_end0
              exact ⟨rfl, HR4.out⟩
end Go.Proofs.Ythbknmblehecaaa
