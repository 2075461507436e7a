/- PoolNone's walk: of no pool, and without an arena, each call says so; what is refused has changed nothing. No statement is proved here. -/
import Derived.Test.YtmmpdpnonnjadaaPoolSame
namespace Go.Proofs.Ytmmpdpnonnjadaa
set_option linter.unusedVariables false
set_option linter.unusedSimpArgs false
open Go.RowKit Go.Proofs.YtmmpdpnonnjadaaW.PrintWords Go.Proofs.YtmmpdpnonnjadaaW.PrintLast Go.Proofs.YtmmpdpnonnjadaaW.PrintMore Pr
attribute [local go_sem] max2_mx min2_mn max_two min_two

theorem eu8_of {x : Int} (h : (Lit.int .u8 x).wf = true) : 0 ≤ x ∧ x ≤ 255 := by
  simp only [Lit.wf, Bool.and_eq_true, decide_eq_true_eq] at h
  have h1 : IntKind.u8.min = 0 := by decide
  have h2 : IntKind.u8.max = 255 := by decide
  omega
theorem ei64_of {x : Int} (h : (Lit.int .i64 x).wf = true) : -9223372036854775808 ≤ x ∧ x ≤ 9223372036854775807 := by
  simp only [Lit.wf, Bool.and_eq_true, decide_eq_true_eq] at h
  have h1 : IntKind.i64.min = -9223372036854775808 := by decide
  have h2 : IntKind.i64.max = 9223372036854775807 := by decide
  omega
theorem allF_len (c page : Int) : (allF c page).length = perC c := by simp [allF]
theorem own_R {w W W' : World} {X : Nat → Prop} {v : Value} {l : List Int} {b : Nat} (hr : Kd.R (Kd.int .i64) 3 W b (fun k => some k = v.ownBlock) v l) (hx : ∀ k, some k = v.ownBlock → W'.heap[k]? = W.heap[k]?) : Kd.R (Kd.int .i64) 3 W' b (fun k => some k = v.ownBlock) v l :=
  Kd.R_step hr (fun k hk _ => hx k hk)
set_option maxRecDepth 100000 in
set_option maxHeartbeats 8000000 in
theorem poolNone_any (page a cl : Int) (w : World) (hpg : -9223372036854775808 ≤ page ∧ page ≤ 9223372036854775807) (hcl : 0 ≤ cl ∧ cl ≤ 255) :
    Calls Try.prog 8 #[.int .i64 page, .int .i64 a, .int .u8 cl] w fun e w' => e = .returned (.bool true) ∧ Below w.heap.size w w' := by
  obtain ⟨c, hc⟩ : ∃ c, c = cl % 4 := ⟨_, rfl⟩
  have hcc : 0 ≤ c ∧ c ≤ 3 := by omega
  have v1 : IntKind.i64.wrap cl = cl := by rw [IntKind.wrap_i64]; omega
  have v2 : Int.tmod cl 4 = c := by rw [Int.tmod_eq_emod_of_nonneg (by omega)]; omega
  have v3 : cl % 4 = c := hc.symm
  obtain ⟨m, hm⟩ : ∃ m, m = mx page 0 := ⟨_, rfl⟩
  have hm0 : 0 ≤ m := by rw [hm]; unfold mx; split <;> omega
  obtain ⟨q, hq⟩ : ∃ q, q = m % 1000 := ⟨_, rfl⟩
  have hqb : 0 ≤ q ∧ q ≤ 999 := by omega
  have v4 : Int.tmod m 1000 = q := by rw [Int.tmod_eq_emod_of_nonneg (by omega)]; omega
  have v5 : m % 1000 = q := hq.symm
  have v6 : IntKind.i64.wrap (9 + q) = 9 + q := by rw [IntKind.wrap_i64]; omega
  have v7 : mx page 0 = m := hm.symm
  have HQB := Sh.mk hqb
  have HCC := Sh.mk hcc
  have HPG := Sh.mk hpg
  have E3 : Sh (addP c (16 : Int).toNat [] 3 = ([⟨3, allF c 3⟩], 0)) := ⟨by unfold addP; rw [if_neg (by simp)]; rfl⟩
  have EP : Sh (putP c [⟨3, allF c 3⟩] 192 = ([⟨3, allF c 3⟩], 0, false, 4)) := ⟨by
    have h1 : hit c 3 192 = true := by
      have h0 := hit_adr hcc (page := 3) (k := 0) (by rcases cls_cases hcc with h | h | h | h <;> omega)
      rw [show adr c 3 0 = 192 by unfold adr; omega] at h0
      exact h0
    have h2 : (192 : Int) ∈ allF c 3 := List.mem_map.2 ⟨0, List.mem_range.2 (by rcases cls_cases hcc with h | h | h | h <;> omega), by unfold adr; omega⟩
    simp only [putP]
    rw [if_pos h1, if_pos h2]⟩
  have E8 : Sh (addP c (16 : Int).toNat [⟨3, allF c 3⟩] 8 = ([⟨3, allF c 3⟩], 4)) := ⟨by unfold addP; rw [if_neg (by simp), if_pos (by simp [overP])]⟩
  have E9 : Sh (addP c (16 : Int).toNat [⟨3, allF c 3⟩] (9 + q) = ([⟨3, allF c 3⟩], 1)) := ⟨by unfold addP; rw [if_pos (.inr (by simp; omega))]⟩
  have EM : Sh (addP c (16 : Int).toNat [⟨3, allF c 3⟩] (-1) = ([⟨3, allF c 3⟩], 1)) := ⟨by unfold addP; rw [if_pos (.inl (by omega))]⟩
  have EF : Sh (freeP [⟨3, allF c 3⟩] = allF c 3) := ⟨by simp [freeP]⟩
  have HLN : Sh ((allF c 3).length ≤ 16) := ⟨by rw [allF_len]; rcases cls_cases hcc with h | h | h | h <;> omega⟩
  have HAW : Sh (∀ V : World, Calls Try.prog 15 #[] V fun e w' => e = .returned (.bool true) ∧ Below V.heap.size V w') := ⟨fun V => awake_pool V⟩
  obtain ⟨AL, hAL⟩ : ∃ l, l = allF c 3 := ⟨_, rfl⟩
  rw [← hAL] at E3 EP E8 E9 EM EF HLN
  clear hc hm hq hm0 hqb hcc hAL hpg
  go_enter Try.func8, Try.ntmps8
  go_wp2_with fail
  (with_reducible refine (new_any 16 w (by omega) (by omega)).mono ?_); rintro e w1 ⟨ga, gb, rfl, har, hg1, hg2, hb1⟩
  have H1 := Sh.mk (And.intro har (And.intro hg1 (And.intro hg2 hb1)))
  clear har hg1 hg2 hb1
  go_wp2_with fail
  (with_reducible refine (new_pool c w1 HCC.out).mono ?_); rintro e w2 ⟨gp, rfl, hp, hg3, hb2⟩
  have HO := Sh.mk (own_made H1.out.1 H1.out.2.1 H1.out.2.2.1 H1.out.2.2.2 hp hg3 hb2 HCC.out (by omega))
  clear hp hg3 hb2 H1
  go_wp2_with fail
  (with_reducible refine (own_add HO.out 3 (by omega)).mono ?_); rintro e w3 ⟨rfl, ho, -⟩
  rw [E3.out] at ho ⊢
  have HO3 := Sh.mk ho
  clear ho HO
  go_wp2_with fail
  (with_reducible refine (own_free HO3.out).mono ?_); rintro e w4 ⟨v, rfl, hr, hb⟩
  rw [EF.out] at hr
  obtain ⟨A0, c0, rfl⟩ := Kd.R_slice hr
  have HR4 : Sh (Kd.R (Kd.int .i64) 3 w4 w3.heap.size (fun k => some k = (Value.slice A0 AL.length c0).ownBlock) (.slice A0 AL.length c0) AL) := ⟨Kd.R_tight rfl hr⟩
  have HO4 : Sh (Own w (fun k => some k = (Value.slice A0 AL.length c0).ownBlock) ga gp c (16 : Int).toNat [⟨3, AL⟩] w4) := ⟨HO3.out.step (fun k hk _ => hb.block k hk) (below_step HO3.out.bl hb) hb.size (fun k hk => .inr (by
    have h1 := (Kd.R_bound hr).1 k hk.symm
    exact ⟨h1.2.1, h1.2.2.1⟩))⟩
  clear hr hb HO3
  go_wp2_with fail
  (with_reducible refine (take_nil _ _).mono ?_); rintro e w5 ⟨rfl, rfl⟩
  go_wp2_with fail
  (with_reducible refine (put_nil _ _ _).mono ?_); rintro e w5 ⟨rfl, rfl⟩
  go_wp2_with fail
  (with_reducible refine (take_nil2 _ _).mono ?_); rintro e w5 ⟨rfl, rfl⟩
  go_wp2_with fail
  (with_reducible refine (put_nil2 _ _ _).mono ?_); rintro e w5 ⟨rfl, rfl⟩
  go_wp2_with fail
  (with_reducible refine (add_nil _ _ _).mono ?_); rintro e w5 ⟨rfl, rfl⟩
  go_wp2_with fail
  (with_reducible refine (spans_nil _).mono ?_); rintro e w5 ⟨rfl, rfl⟩
  go_wp2_with fail
  (with_reducible refine (free_nil _ _).mono ?_); rintro e w5 ⟨rfl, rfl⟩
  go_wp2_with fail
  (with_reducible refine (len_pnil _).mono ?_); rintro e w5 ⟨rfl, rfl⟩
  go_wp2_with fail
  (with_reducible refine (add_nil2 _ _ _).mono ?_); rintro e w5 ⟨rfl, rfl⟩
  go_wp2_with fail
  (with_reducible refine (free_nil2 _ _).mono ?_); rintro e w5 ⟨rfl, rfl⟩
  go_wp2_with fail
  (with_reducible refine (own_put HO4.out 192).mono ?_); rintro e w5 ⟨rfl, ho, hx⟩
  rw [EP.out] at ho ⊢
  have HO5 := Sh.mk ho
  have HR5 := Sh.mk (own_R (w := w) (X := fun _ => False) HR4.out hx)
  clear ho hx HO4 HR4
  go_wp2_with fail
  (with_reducible refine (own_add HO5.out 8 (by omega)).mono ?_); rintro e w6 ⟨rfl, ho, hx⟩
  rw [E8.out] at ho ⊢
  have HO6 := Sh.mk ho
  have HR6 := Sh.mk (own_R (w := w) (X := fun _ => False) HR5.out hx)
  clear ho hx HO5 HR5
  go_wp2_with fail
  (with_reducible refine (own_add HO6.out (9 + q) (by have := HQB.out; omega)).mono ?_); rintro e w7 ⟨rfl, ho, hx⟩
  rw [E9.out] at ho ⊢
  have HO7 := Sh.mk ho
  have HR7 := Sh.mk (own_R (w := w) (X := fun _ => False) HR6.out hx)
  clear ho hx HO6 HR6
  go_wp2_with fail
  (with_reducible refine (own_add HO7.out (-1) (by omega)).mono ?_); rintro e w8 ⟨rfl, ho, hx⟩
  rw [EM.out] at ho ⊢
  have HO8 := Sh.mk ho
  have HR8 := Sh.mk (own_R (w := w) (X := fun _ => False) HR7.out hx)
  clear ho hx HO7 HR7
  go_wp2_with fail
  (with_reducible refine (own_free HO8.out).mono ?_); rintro e w9 ⟨v, rfl, hr, hb⟩
  rw [EF.out] at hr
  obtain ⟨A1, c1, rfl⟩ := Kd.R_slice hr
  have HR9 := Sh.mk (Kd.R_reads' hr)
  have HR0 := Sh.mk (Kd.R_reads' (Kd.R_below HR8.out hb))
  have HB9 := Sh.mk (below_step HO8.out.bl hb)
  clear hr hb HO8 HR8
  go_wp2_with fail
  (with_reducible refine (same_ints AL (by have := HLN.out; omega) A1 A0 c1 c0 w9 HR9.out.2.2 HR9.out.2.1 HR0.out.2.2 HR0.out.2.1).mono ?_); rintro e w10 ⟨rfl, hb⟩
  have HB10 := Sh.mk (below_step HB9.out hb)
  clear hb
  go_wp2_with fail
  (with_reducible refine (HAW.out _).mono ?_); rintro e w11 ⟨rfl, hb⟩
  have HB11 := Sh.mk (below_step HB10.out hb)
  clear hb
  go_wp2
  go_ret
  exact ⟨rfl, HB11.out⟩
theorem poolNone_walk (a0 a1 a2 : Int) (w : World) (hw0 : (Lit.int .i64 a0).wf = true) (hw1 : (Lit.int .i64 a1).wf = true) (hw2 : (Lit.int .u8 a2).wf = true) :
    Calls Try.prog 8 #[.int .i64 a0, .int .i64 a1, .int .u8 a2] w fun e w' => e = .returned (.bool true) ∧ Below w.heap.size w w' :=
  poolNone_any a0 a1 a2 w (ei64_of hw0) (eu8_of hw2)
end Go.Proofs.Ytmmpdpnonnjadaa
