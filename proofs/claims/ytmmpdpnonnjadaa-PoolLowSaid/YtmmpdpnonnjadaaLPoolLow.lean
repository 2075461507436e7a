/- PoolLow's walk: what is taken is the first of all that are free, of the lowest span that has one. No statement is proved here. -/
import Derived.Test.YtmmpdpnonnjadaaPoolAll
namespace Go.Proofs.Ytmmpdpnonnjadaa
set_option linter.unusedVariables false
set_option linter.unusedSimpArgs false
open Go.RowKit Go.Proofs.YtmmpdpnonnjadaaW.PrintWords Go.Proofs.YtmmpdpnonnjadaaW.PrintLast Go.Proofs.YtmmpdpnonnjadaaW.PrintMore Pr

set_option maxRecDepth 100000 in
set_option maxHeartbeats 8000000 in
theorem poolLow_any (cl : Int) (A0 : Option Addr) (c0 : Nat) (ns : List Int) (w : World) (hcl : 0 ≤ cl ∧ cl ≤ 255) (hr : Kd.C (Kd.int .u8) w A0 ns.length ns) (hw : ∀ x ∈ ns, (Lit.int .u8 x).wf = true) (hy : ns.length * 1 ≤ 140737488351232) :
    Calls Try.prog 4 #[.int .u8 cl, .slice A0 ns.length c0] w fun e w' => e = .returned (.bool true) ∧ Below w.heap.size w w' := by
  have hu42 := Try.underlying42
  obtain ⟨c, hc⟩ : ∃ c, c = cl % 4 := ⟨_, rfl⟩
  have hcc : 0 ≤ c ∧ c ≤ 3 := by omega
  have v1 : IntKind.i64.wrap cl = cl := by rw [IntKind.wrap_i64]; omega
  have v2 : Int.tmod cl 4 = c := by rw [Int.tmod_eq_emod_of_nonneg (by omega)]; omega
  have v3 : cl % 4 = c := hc.symm
  have HCC := Sh.mk hcc
  have HRN : Sh (∀ i, 0 ≤ rd0 ns i ∧ rd0 ns i ≤ 255) := ⟨rd0_rng (fun x hx => wf8 (hw x hx)) (by omega) (by omega)⟩
  have HR := Sh.mk hr
  obtain ⟨n, hn⟩ : ∃ n, n = ns.length := ⟨_, rfl⟩
  have hn2 : n ≤ 140737488351232 := by omega
  rw [← hn] at HR ⊢
  have HAW : Sh (∀ V : World, Calls Try.prog 15 #[] V fun e w' => e = .returned (.bool true) ∧ Below V.heap.size V w') := ⟨fun V => awake_pool V⟩
  clear hc hcc hw hr hy hn
  go_enter Try.func4, Try.ntmps4
  go_wp2_with fail
  (with_reducible refine (new_any 40 w (by omega) (by omega)).mono ?_); rintro e w1 ⟨ga, gb, rfl, har, hg1, hg2, hb1⟩
  have H1 := Sh.mk (And.intro har (And.intro hg1 (And.intro hg2 hb1)))
  clear har hg1 hg2 hb1
  go_wp2_with fail
  (with_reducible refine (new_pool c w1 HCC.out).mono ?_); rintro e w2 ⟨gp, rfl, hp, hg3, hb2⟩
  have HO2 : Sh (Own w (fun k => some k = (Value.slice none 0 0).ownBlock) ga gp c (40 : Int).toNat [] w2) := ⟨(own_made H1.out.1 H1.out.2.1 H1.out.2.2.1 H1.out.2.2.2 hp hg3 hb2 HCC.out (by omega)).less (fun k hk => by simp [Value.ownBlock] at hk)⟩
  clear hp hg3 hb2 H1
  go_wp2
  go_loopw [8, 9] (fun tv iv wr => ∃ (i : Nat) (Ps : List Pt) (T : List Int), i ≤ 302 ∧ T.length ≤ i ∧ iv = .int .i64 i ∧ Sh (Kd.R (Kd.int .i64) 3 wr w.heap.size (fun k => some k = tv.ownBlock) tv T) ∧ Sh (Own w (fun k => some k = tv.ownBlock) ga gp c (40 : Int).toNat Ps wr) ∧ Sh (∀ p ∈ Ps, p.page % 8 = 0)) (fun _ iv _ => 302 - (intOf iv).toNat)
  case atStart => exact ⟨0, [], [], by omega, by simp, rfl, ⟨Kd.R_nil _ _ _ _ _⟩, HO2, ⟨by simp⟩⟩
  case round =>
    clear HO2
    obtain ⟨i, Ps, T, hi, hTl, rfl, HT, HO, HM⟩ := hrel
    obtain ⟨AT, cT, eT⟩ := Kd.R_slice HT.out
    subst eT
    by_cases hgo : i + 1 < n ∧ i < 300
    · obtain ⟨hi1, hi2⟩ := hgo
      have hCn := Kd.C_below HR.out HO.out.bl
      obtain ⟨ad, rfl, q0⟩ := C_cell hCn i (by omega)
      obtain ⟨ad', e', q1⟩ := C_cell hCn (i + 1) (by omega)
      obtain rfl : ad = ad' := Option.some.inj e'
      clear e' hCn
      rw [Addr.add_succ'] at q1
      have h0 := HRN.out i
      have h1 := HRN.out (i + 1)
      obtain ⟨x, hx⟩ : ∃ x, x = rd0 ns i := ⟨_, rfl⟩
      obtain ⟨k, hk⟩ : ∃ x, x = rd0 ns (i + 1) := ⟨_, rfl⟩
      rw [← hx] at q0 h0
      rw [← hk] at q1 h1
      clear hx hk
      have z1 : (i : Int) + 1 < (n : Int) := by omega
      have z2 : (i : Int) < 300 := by omega
      have m6 : Int.tmod x 6 = x % 6 := Int.tmod_eq_emod_of_nonneg (by omega)
      by_cases c0 : x % 6 = 0
      · have m6' : Int.tmod x 6 = 0 := by omega
        obtain ⟨r, hr⟩ : ∃ r, r = k % 5 := ⟨_, rfl⟩
        have hrb : 0 ≤ r ∧ r ≤ 4 := by omega
        have v4 : Int.tmod k 5 = r := by rw [Int.tmod_eq_emod_of_nonneg (by omega)]; omega
        have v5 : k % 5 = r := hr.symm
        have v6 : IntKind.i64.wrap (8 * r) = 8 * r := by rw [IntKind.wrap_i64]; omega
        have HRB := Sh.mk hrb
        clear m6 hr hrb
        go_wp2_with fail
        (with_reducible refine (own_add HO.out (8 * r) (by have := HRB.out; omega)).mono ?_); rintro e w5 ⟨rfl, ho, hx⟩
        have HO5 := Sh.mk ho
        have HT5 := Sh.mk (R_keepX HT.out hx (fun _ h => h))
        have HM5 : Sh (∀ p ∈ (addP c (40 : Int).toNat Ps (8 * r)).1, p.page % 8 = 0) := ⟨addP_pages (P := fun q => q % 8 = 0) HM.out (by omega)⟩
        clear ho hx HO HT HM
        go_wp2_with fail
        go_roundw
        case rel => exact ⟨i + 2, _, T, by omega, by omega, by go_num, HT5, HO5, HM5⟩
        case measure => simp [intOf]; omega
      · by_cases c1 : x % 6 < 4
        · have m6' : ¬ Int.tmod x 6 = 0 := by omega
          have m7' : Int.tmod x 6 < 4 := by omega
          have m8 : ¬ x % 6 = 0 := c0
          go_wp2_with fail
          (with_reducible refine (own_free HO.out).mono ?_); rintro e w5 ⟨v, rfl, hl, hbl⟩
          obtain ⟨Al, cl', rfl⟩ := Kd.R_slice hl
          have HO5 := Sh.mk (HO.out.below hbl)
          have HT5 := Sh.mk (Kd.R_below HT.out hbl)
          have HL5 := Sh.mk (Kd.R_tight rfl hl)
          have HLB := Sh.mk (Kd.R_bound hl)
          clear hl
          have HG : Sh (Good c (40 : Int).toNat Ps) := ⟨HO.out.good⟩
          have HBL := Sh.mk hbl
          have hwr5 := HO.out.bl.size
          clear hbl
          go_wp2_with fail
          (with_reducible refine (own_spans HO5.out).mono ?_); rintro e w6 ⟨v, rfl, hs, hbs⟩
          obtain ⟨As, cs, rfl⟩ := Kd.R_slice hs
          have HT6 := Sh.mk (Kd.R_below HT5.out hbs)
          have HL6 := Sh.mk (Kd.R_below HL5.out hbs)
          have HS6 := Sh.mk (Kd.R_tight rfl hs)
          have HO6 : Sh (Own w (fun q => some q = (Value.slice AT T.length cT).ownBlock ∨ some q = (Value.slice Al (freeP Ps).length cl').ownBlock ∨ some q = (Value.slice As (partsP Ps).length cs).ownBlock) ga gp c (40 : Int).toNat Ps w6) := ⟨HO.out.step (fun q hq _ => (HBL.out.trans (hbs.mono HBL.out.size)).block q hq) (below_step HO5.out.bl hbs) (Nat.le_trans HBL.out.size hbs.size) (fun q hq => by
            rcases hq with hq | hq | hq
            · exact .inl hq
            · obtain ⟨a1, a2, a3, _⟩ := HLB.out.1 q hq.symm
              exact .inr ⟨a2, Nat.lt_of_lt_of_le a3 hbs.size⟩
            · obtain ⟨a1, a2, a3, _⟩ := (Kd.R_bound hs).1 q hq.symm
              exact .inr ⟨Nat.le_trans HBL.out.size a2, a3⟩)⟩
          clear hs hbs HO HO5 HT HT5 HL5 HLB HBL hwr5
          go_wp2_with fail
          (with_reducible refine (own_take HO6.out).mono ?_); rintro e w7 ⟨rfl, ho, hx⟩
          have HO7 := Sh.mk ho
          have HT7 := Sh.mk (R_keepX HT6.out hx (fun _ h => .inl h))
          have HL7 := Sh.mk (R_keepX HL6.out hx (fun _ h => .inr (.inl h)))
          have HS7 := Sh.mk (R_keepX HS6.out hx (fun _ h => .inr (.inr h)))
          clear ho hx HO6 HT6 HL6 HS6
          have HM7 : Sh (∀ p ∈ (takeR Ps).1, p.page % 8 = 0) := ⟨takeR_pages (P := fun q => q % 8 = 0) HM.out⟩
          rcases take_low Ps with ⟨t1, t2⟩ | ⟨y, pg, j, m, L', t1, t2, t3, t4, t5, p, t6, t7, t8⟩
          · rw [t2] at HO7 HM7 ⊢
            rw [t1]
            clear t1 t2
            go_wp2_with fail
            go_roundw
            case rel => exact ⟨i + 2, Ps, T, by omega, by omega, by go_num, HT7, ⟨HO7.out.less (fun q hq => .inl hq)⟩, HM⟩
            case measure => simp [intOf]; omega
          · rw [t1] at HO7 HM7 ⊢
            have hfl : 0 < (freeP Ps).length := (List.getElem?_eq_some_iff.1 t2).1
            have hpl : (partsP Ps).length = Ps.length := by simp [partsP]
            have hp8 := HM.out p t6
            have hgp := HG.out.1 p t6
            have hfb := free_bd HO7.out.cls.1 hgp t8
            have hpg : 0 ≤ pg ∧ pg ≤ 40 := ⟨by rw [← t7]; exact hgp.1, by have := hgp.2.1; rw [← t7]; omega⟩
            have hyb : pg * 64 ≤ y ∧ y < pg * 64 + 512 := by rw [← t7]; exact ⟨hfb.1, hfb.2.1⟩
            have hp9 : pg % 8 = 0 := by rw [← t7]; exact hp8
            obtain ⟨al, hAl, k0⟩ := C_cell (Kd.R_reads' HL7.out).2.2 0 hfl
            subst hAl
            rw [show rd0 (freeP Ps) 0 = y by unfold rd0; rw [List.getD_eq_getElem?_getD, t2]; rfl] at k0
            have k0' : w7.cell? al = some (.int .i64 y) := k0
            have HT4 := Sh.mk t4
            have HT5 := Sh.mk t5
            have HPL := Sh.mk hpl
            obtain ⟨np, hnp⟩ : ∃ np, np = (partsP Ps).length := ⟨_, rfl⟩
            obtain ⟨nf, hnf⟩ : ∃ nf, nf = (freeP Ps).length := ⟨_, rfl⟩
            rw [← hnp] at HS7 ⊢
            rw [← hnf] at hfl ⊢
            have hjn : j < np := by omega
            have hlen8 : np ≤ 32 := by have := HG.out.len; omega
            have fb0 : ((nf : Int) == 0) = false := beq_eq_false_iff_ne.2 (by omega)
            obtain ⟨a1, ha1⟩ : ∃ a, a = y / 64 := ⟨_, rfl⟩
            obtain ⟨a2, ha2⟩ : ∃ a, a = a1 / 8 := ⟨_, rfl⟩
            have e1 : Int.tdiv y 64 = a1 := by rw [Int.tdiv_eq_ediv_of_nonneg (by omega)]; omega
            have e2 : Int.tdiv a1 8 = a2 := by rw [Int.tdiv_eq_ediv_of_nonneg (by omega)]; omega
            have e3 : IntKind.i64.wrap (a2 * 8) = pg := by rw [IntKind.wrap_i64]; omega
            have HE4 : Sh (wrap64 a1 = a1) := ⟨by unfold wrap64; omega⟩
            have HE5 : Sh (wrap64 a2 = a2) := ⟨by unfold wrap64; omega⟩
            have e6 : y / 64 = a1 := ha1.symm
            have e7 : a1 / 8 = a2 := ha2.symm
            have hS7 : Kd.C k42 w7 As np (partsP Ps) := by have := (Kd.R_reads' HS7.out).2.2; rw [← hnp] at this; exact this
            have HC7 := Sh.mk hS7
            clear hS7 t1 t2 t4 t5 t6 t7 t8 hp8 hgp hfb hpl hnp hnf hp9 hyb hpg ha1 ha2 HL7 HG HS7 HM
            go_wp2
            go_loopw [15] (fun jv wx => ∃ jj : Nat, jj ≤ j ∧ jv = .int .i64 jj ∧ wx = w7) (fun jv _ => j - (intOf jv).toNat)
            case atStart => exact ⟨0, Nat.zero_le _, by simp⟩
            case round =>
              obtain ⟨jj, hjj, rfl, hwx⟩ := hrel
              subst hwx
              by_cases hjl : jj < j
              · obtain ⟨ads, rfl, s0, s1⟩ := at_T42 HC7.out (jj : Int) (by omega) (by omega)
                rw [Int.toNat_natCast] at s0 s1
                rw [HT4.out jj hjl] at s1
                clear s0
                have zj : (jj : Int) < (np : Int) := by omega
                go_wp2
                go_roundw
                case rel => exact ⟨jj + 1, by omega, by go_num, by first | rfl | trivial⟩
                case measure => simp [intOf]; omega
              · obtain rfl : jj = j := by omega
                obtain ⟨ads, rfl, s0, s1⟩ := at_T42 HC7.out (jj : Int) (by omega) (by omega)
                rw [Int.toNat_natCast] at s0 s1
                rw [HT5.out] at s0 s1
                dsimp only at s0 s1
                have zj : (jj : Int) < (np : Int) := by omega
                have zb : ((m : Int) + 1 == 0) = false := beq_eq_false_iff_ne.2 (by omega)
                have zc : ((jj : Int) == (np : Int)) = false := beq_eq_false_iff_ne.2 (by omega)
                have e4 := HE4.out
                have e5 := HE5.out
                have HTT := Sh.mk hTl
                go_wp2_with (first | ((with_reducible refine gate_builtin (b := .append) (xs := #[.tmp 122, .tmp 124]) rfl ?_); at_builtin; refine Kd.R_append (Kd.int .i64) (w0 := w) w.heap.size rfl (.tmp 122) (.tmp 124) 37 3 (.int .i64 0) 8 rfl Try.underlying37 info_i64 rfl (by decide) (by omega) (.slice AT T.length cT) T y [.int .i64 y] (fun _ => True) (fun _ => False) rfl rfl ?aP (fun _ hk => hk.elim) ?aF ?aO ?aB ?aS ?aL ?_; (case aP => exact rfl); (case aB => exact HO7.out.bl); (case aF => exact (fun _ _ => trivial)); (case aO => exact Kd.R_mono HT7.out (fun _ _ => trivial)); (case aS => exact HO7.out.bl.size); (case aL => have := HTT.out; omega); intro v1 w8 ho hb hg hat; have HO' := Sh.mk ho; have HG' := Sh.mk hg; have HAT' := Sh.mk hat; clear ho hb hg hat))
                have HO8 : Sh (Own w (fun q => some q = v1.ownBlock) ga gp c (40 : Int).toNat L' w8) := ⟨HO7.out.step (fun q hq hn => HG'.out.block q hq (fun e => hn (.inl e))) (HO7.out.bl.grown HG'.out HO7.out.bl.size (fun q hq => by
                  have := ((Kd.R_bound HT7.out).1 q hq).2.1
                  exact this)) HG'.out.size (fun q hq => by
                  have hb := (Kd.R_bound HO'.out).1 q hq.symm
                  rcases HAT'.out with ha | ⟨b, ha, hbl⟩
                  · exact .inl (.inl (by rw [hq, ha]))
                  · rw [← hq] at ha; cases ha; exact .inr ⟨hbl, hb.2.2.1⟩)⟩
                have HT8 := Sh.mk (Kd.R_tight rfl HO'.out)
                go_wp2_with fail
                go_roundw
                case rel => exact ⟨i + 2, L', T ++ [y], by omega, by simp; omega, by go_num, HT8, HO8, HM7⟩
                case measure => simp [intOf]; omega
        · have m6' : ¬ Int.tmod x 6 = 0 := by omega
          have m7' : ¬ Int.tmod x 6 < 4 := by omega
          have m8 : ¬ x % 6 = 0 := c0
          by_cases hT0 : T.length = 0
          · have hb0 : ¬ (0 : Int) < (T.length : Int) := by omega
            go_wp2_with fail
            go_roundw
            case rel => exact ⟨i + 2, Ps, T, by omega, by omega, by go_num, HT, HO, HM⟩
            case measure => simp [intOf]; omega
          · have hb0 : (0 : Int) < (T.length : Int) := by omega
            obtain ⟨r, hr⟩ : ∃ r : Nat, r = k.toNat % T.length := ⟨_, rfl⟩
            have hrl : r < T.length := by rw [hr]; exact Nat.mod_lt _ (by omega)
            have hkr : k % (T.length : Int) = (r : Int) := by rw [hr, Int.natCast_emod, Int.toNat_of_nonneg (by omega)]
            have hkt : Int.tmod k (T.length : Int) = (r : Int) := by rw [Int.tmod_eq_emod_of_nonneg (by omega)]; exact hkr
            obtain ⟨at_, hAt, g0⟩ := C_cell (Kd.R_reads' HT.out).2.2 r hrl
            subst hAt
            obtain ⟨y, hy⟩ : ∃ y, y = rd0 T r := ⟨_, rfl⟩
            rw [← hy] at g0
            obtain ⟨nT, hnT⟩ : ∃ n, n = T.length := ⟨_, rfl⟩
            have hz0 : ¬ (T.length : Int) = 0 := by omega
            clear hy hr
            go_wp2_with fail
            (with_reducible refine (own_put HO.out y).mono ?_); rintro e w5 ⟨rfl, ho, hx⟩
            have HO5 := Sh.mk ho
            have HT5 := Sh.mk (R_keepX HT.out hx (fun _ h => h))
            have HM5 : Sh (∀ p ∈ (putP c Ps y).1, p.page % 8 = 0) := ⟨putP_pages (P := fun q => q % 8 = 0) HM.out⟩
            clear ho hx HO HT HM
            go_wp2_with fail
            go_roundw
            case rel => exact ⟨i + 2, _, T, by omega, by omega, by go_num, HT5, HO5, HM5⟩
            case measure => simp [intOf]; omega
    · have HBL := Sh.mk HO.out.bl
      by_cases hi1 : i + 1 < n
      · have z1 : (i : Int) + 1 < (n : Int) := by omega
        have z2 : ¬ (i : Int) < 300 := by omega
        clear hgo HO HT HM
        go_wp2_with fail
        (with_reducible refine (HAW.out _).mono ?_); rintro e w9 ⟨rfl, hb⟩
        have HB9 := Sh.mk (below_step HBL.out hb)
        clear hb
        go_wp2
        go_ret
        exact ⟨rfl, HB9.out⟩
      · have z1 : ¬ (i : Int) + 1 < (n : Int) := by omega
        clear hgo HO HT HM
        go_wp2_with fail
        (with_reducible refine (HAW.out _).mono ?_); rintro e w9 ⟨rfl, hb⟩
        have HB9 := Sh.mk (below_step HBL.out hb)
        clear hb
        go_wp2
        go_ret
        exact ⟨rfl, HB9.out⟩
theorem poolLow_walk (a0 : Int) (A1 : Option Addr) (c1 : Nat) (l1 : List Int) (w : World) (hw0 : (Lit.int .u8 a0).wf = true) (hr1 : Kd.C (Kd.int .u8) w A1 l1.length l1) (hc1 : l1.length ≤ c1) (hw1 : ∀ x ∈ l1, (Lit.int .u8 x).wf = true) (y1 : l1.length * 1 ≤ 140737488351232) :
    Calls Try.prog 4 #[.int .u8 a0, .slice A1 l1.length c1] w fun e w' => e = .returned (.bool true) ∧ Below w.heap.size w w' :=
  poolLow_any a0 A1 c1 l1 w (wf8 hw0) hr1 hw1 y1
end Go.Proofs.Ytmmpdpnonnjadaa
