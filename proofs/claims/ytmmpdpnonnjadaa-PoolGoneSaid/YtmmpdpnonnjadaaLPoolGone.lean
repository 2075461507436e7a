/- PoolGone's walk: of what is put back, in any order, just the last stack of a span takes the span with it. No statement is proved here. -/
import Derived.Test.YtmmpdpnonnjadaaGoneLaw
import Derived.Deep.CutRange
namespace Go.Proofs.Ytmmpdpnonnjadaa
set_option linter.unusedVariables false
set_option linter.unusedSimpArgs false
open Go.RowKit Go.Proofs.YtmmpdpnonnjadaaW.PrintWords Go.Proofs.YtmmpdpnonnjadaaW.PrintLast Go.Proofs.YtmmpdpnonnjadaaW.PrintMore Pr

theorem shr16 {c : Int} (h : 0 ≤ c ∧ c ≤ 3) : (16 : Int) / 2 ^ c.toNat = (perC c : Nat) := by
  rcases (show c = 0 ∨ c = 1 ∨ c = 2 ∨ c = 3 by omega) with rfl | rfl | rfl | rfl <;> first | decide | (simp [perC, sizeRow])
theorem run_make_int4 (w : World) :
    (Instr.makeSlice 37 (.int .i64 4) (.int .i64 4)).run Try.prog w = .ok (.slice (some ⟨w.heap.size, 0, none⟩) 4 4) (w.alloc (.cells (I64s [0, 0, 0, 0]) 3)) := by
  obtain ⟨i0, hi0, hz0, hz1, hz2⟩ := info_parts info_i64
  have hr := run_make_rowN (P := Try.prog) 37 3 i0 (.int .i64 0) Try.underlying37 hi0 hz0 .i64 .i64 4 4 (Nat.le_refl _) (by rw [hz2]; omega) (by omega) w
  rw [show ((4 : Nat) : Int) = 4 from rfl] at hr
  rw [hr, hz1, Nat.mul_one, show (Value.int .i64 0).cells = #[.int .i64 0] from rfl, madeCells_one]
  rfl
theorem I64s_set (l : List Int) (i : Nat) (v : Int) : (I64s l).setIfInBounds i (.int .i64 v) = I64s (l.set i v) := by
  simp [I64s, List.map_set]
theorem tot_le {L : List Pt} {p : Pt} (h : p ∈ L) : p.free.length ≤ tot L := by
  induction L with
  | nil => cases h
  | cons q L ih =>
    simp only [tot]
    rcases List.mem_cons.1 h with rfl | h
    · omega
    · have := ih h; omega
theorem tot_base (c : Int) (i : Nat) : tot (baseP c i) = i * perC c := by
  induction i with
  | zero => simp [baseP, tot]
  | succ i ih =>
    have e : baseP c (i + 1) = baseP c i ++ [⟨8 * (i : Int), allF c (8 * (i : Int))⟩] := by unfold baseP; rw [List.range_succ, List.map_append]; rfl
    rw [e, tot_app, ih, Nat.add_mul]
    simp [tot, allF]
theorem ginv_base {c : Int} {i : Nat} (hc : 0 ≤ c ∧ c ≤ 3) (h : Good c 32 (baseP c i)) : GInv c i (baseP c i) [] [0, 0, 0, 0] := by
  refine ⟨h, fun p hp => ?_, by simp, fun a => ?_, fun q hq => ?_, ?_, rfl⟩
  · obtain ⟨j, hj, rfl⟩ := List.mem_map.1 hp
    exact ⟨j, List.mem_range.1 hj, rfl⟩
  · refine ⟨fun h => (by cases h), ?_⟩
    rintro ⟨p, hp, h1, h2⟩
    obtain ⟨j, hj, rfl⟩ := List.mem_map.1 hp
    obtain ⟨k, hk, e⟩ := hit_get hc h1
    exact absurd (List.mem_map.2 ⟨k, List.mem_range.2 hk, e.symm⟩) h2
  · rcases (show q = 0 ∨ q = 1 ∨ q = 2 ∨ q = 3 by omega) with rfl | rfl | rfl | rfl <;> rfl
  · rw [tot_base]; simp [baseP]
set_option maxRecDepth 100000 in
set_option maxHeartbeats 8000000 in
theorem poolGone_any (cl sp : Int) (A0 : Option Addr) (c0 : Nat) (ns : List Int) (w : World) (hcl : 0 ≤ cl ∧ cl ≤ 255) (hsp : 0 ≤ sp ∧ sp ≤ 255) (hr : Kd.C (Kd.int .u8) w A0 ns.length ns) (hw : ∀ x ∈ ns, (Lit.int .u8 x).wf = true) (hy : ns.length * 1 ≤ 140737488351232) :
    Calls Try.prog 7 #[.int .u8 cl, .int .u8 sp, .slice A0 ns.length c0] w fun e w' => e = .returned (.bool true) ∧ Below w.heap.size w w' := by
  obtain ⟨c, hc⟩ : ∃ c, c = cl % 4 := ⟨_, rfl⟩
  have hcc : 0 ≤ c ∧ c ≤ 3 := by omega
  have v1 : IntKind.i64.wrap cl = cl := by rw [IntKind.wrap_i64]; omega
  have v2 : Int.tmod cl 4 = c := by rw [Int.tmod_eq_emod_of_nonneg (by omega)]; omega
  have v3 : cl % 4 = c := hc.symm
  obtain ⟨n, hn⟩ : ∃ n : Nat, n = (1 + sp % 4).toNat := ⟨_, rfl⟩
  have hn4 : 1 ≤ n ∧ n ≤ 4 := by omega
  obtain ⟨s4, hs4⟩ : ∃ s, s = sp % 4 := ⟨_, rfl⟩
  have v5 : IntKind.i64.wrap sp = sp := by rw [IntKind.wrap_i64]; omega
  have v6 : Int.tmod sp 4 = s4 := by rw [Int.tmod_eq_emod_of_nonneg (by omega)]; omega
  have v7 : sp % 4 = s4 := hs4.symm
  have v8 : IntKind.i64.wrap (1 + s4) = (n : Int) := by rw [IntKind.wrap_i64]; omega
  have HCC := Sh.mk hcc
  have HRN : Sh (∀ i, 0 ≤ rd0 ns i ∧ rd0 ns i ≤ 255) := ⟨rd0_rng (fun x hx => wf8 (hw x hx)) (by omega) (by omega)⟩
  have HR := Sh.mk hr
  obtain ⟨nn, hnn⟩ : ∃ n, n = ns.length := ⟨_, rfl⟩
  have hn2 : nn ≤ 140737488351232 := by omega
  rw [← hnn] at HR ⊢
  obtain ⟨pr, hpr⟩ : ∃ x, x = perC c := ⟨_, rfl⟩
  have hpb : 2 ≤ pr ∧ pr ≤ 16 := by rw [hpr]; rcases cls_cases hcc with h | h | h | h <;> omega
  have HPR := Sh.mk hpr
  have HSR : Sh ((16 : Int) / 2 ^ c.toNat = (pr : Int)) := ⟨by rw [hpr]; exact shr16 hcc⟩
  obtain ⟨np, hnp⟩ : ∃ x, x = n * pr := ⟨_, rfl⟩
  have hnp2 : np ≤ 64 := by rw [hnp]; exact Nat.le_trans (Nat.mul_le_mul hn4.2 hpb.2) (by omega)
  have v9 : IntKind.i64.wrap ((n : Int) * (pr : Int)) = (np : Int) := by
    rw [hnp, Int.natCast_mul, IntKind.wrap_i64]
    have : (n : Int) * (pr : Int) = ((n * pr : Nat) : Int) := by rw [Int.natCast_mul]
    rw [this, ← hnp]; omega
  have HNP := Sh.mk hnp
  have v10 : IntKind.i64.wrap (512 * (n : Int)) = 512 * (n : Int) := by rw [IntKind.wrap_i64]; omega
  have HAW : Sh (∀ V : World, Calls Try.prog 15 #[] V fun e w' => e = .returned (.bool true) ∧ Below V.heap.size V w') := ⟨fun V => awake_pool V⟩
  have hmk := run_make_int4
  have HN4 := Sh.mk hn4
  clear hc hcc hw hr hy hn hnn hs4 hpr hnp
  go_enter Try.func7, Try.ntmps7
  go_wp2_with fail
  (with_reducible refine (new_any 32 w (by omega) (by omega)).mono ?_); rintro e w1 ⟨ga, gb, rfl, har, hg1, hg2, hb1⟩
  have H1 := Sh.mk (And.intro har (And.intro hg1 (And.intro hg2 hb1)))
  clear har hg1 hg2 hb1
  go_wp2_with fail
  (with_reducible refine (new_pool c w1 HCC.out).mono ?_); rintro e w2 ⟨gp, rfl, hp, hg3, hb2⟩
  have HO2 : Sh (Own w (fun _ => False) ga gp c 32 (baseP c 0) w2) := ⟨own_made H1.out.1 H1.out.2.1 H1.out.2.2.1 H1.out.2.2.2 hp hg3 hb2 HCC.out (by omega)⟩
  clear hp hg3 hb2 H1
  go_wp2
  go_loopw [11] (fun iv wr => ∃ i : Nat, i ≤ n ∧ iv = .int .i64 i ∧ Sh (Own w (fun _ => False) ga gp c 32 (baseP c i) wr)) (fun iv _ => n - (intOf iv).toNat)
  case atStart => exact ⟨0, Nat.zero_le _, rfl, HO2⟩
  case round =>
    clear HO2
    obtain ⟨i, hi, rfl, HO⟩ := hrel
    by_cases hlt : i < n
    · have z1 : (i : Int) < (n : Int) := by omega
      have w3 : IntKind.i64.wrap (8 * (i : Int)) = 8 * (i : Int) := by rw [IntKind.wrap_i64]; omega
      have HBA := Sh.mk (base_add c i (by omega))
      have HBB : Sh (-9223372036854775808 ≤ 8 * (i : Int) ∧ 8 * (i : Int) ≤ 9223372036854775807) := ⟨by omega⟩
      go_wp2_with fail
      (with_reducible refine (own_add HO.out (8 * (i : Int)) HBB.out).mono ?_); rintro e w3' ⟨rfl, ho, -⟩
      rw [HBA.out] at ho ⊢
      have HO3 := Sh.mk ho
      clear ho HO HBA
      go_wp2_with fail
      go_roundw
      case rel => exact ⟨i + 1, by omega, by go_num, HO3⟩
      case measure => simp [intOf]; omega
    · obtain rfl : i = n := by omega
      have hsr := HSR.out
      clear hlt hi
      go_upto_region 14 with fail
      clear hsr
      obtain ⟨gl, hgl⟩ : ∃ g, g = wr.heap.size := ⟨_, rfl⟩
      have HL0 : Sh (Blk (wr.alloc (.cells (I64s [0, 0, 0, 0]) 3)) gl 3 (I64s [0, 0, 0, 0])) := ⟨Blk.new_ _ _ _ hgl⟩
      have HO3 : Sh (Own w (fun k => k = gl ∨ some k = (Value.slice none 0 0).ownBlock) ga gp c 32 (baseP c i) (wr.alloc (.cells (I64s [0, 0, 0, 0]) 3))) := ⟨HO.out.step (fun k hk _ => Below.heap_alloc _ _ _ hk) (below_step HO.out.bl (below_alloc (Below.refl _ _) _)) (by simp) (fun k hk => by
        rcases hk with rfl | hk
        · exact .inr ⟨by omega, HL0.out.lt⟩
        · simp [Value.ownBlock] at hk)⟩
      have HGE : Sh (w.heap.size ≤ gl) := ⟨by rw [hgl]; exact HO.out.bl.size⟩
      have HGI : Sh (GInv c i (baseP c i) [] [0, 0, 0, 0]) := ⟨ginv_base HCC.out HO.out.good⟩
      rw [← hgl]
      clear hgl HO hmk
      go_wp2
      go_loopw [13, 15] (fun ov tv wr => ∃ (t : Nat) (Ps : List Pt) (T lf : List Int), t ≤ np ∧ tv = .int .i64 t ∧ T.length = t ∧ Ps.length = i ∧ Sh (GInv c i Ps T lf) ∧ Sh (Kd.R (Kd.int .i64) 3 wr w.heap.size (fun k => some k = ov.ownBlock) ov T) ∧ Sh (Own w (fun k => k = gl ∨ some k = ov.ownBlock) ga gp c 32 Ps wr) ∧ Sh (Blk wr gl 3 (I64s lf)) ∧ Sh (ov.ownBlock ≠ some gl)) (fun _ tv _ => np - (intOf tv).toNat)
      case atStart => exact ⟨0, _, [], _, Nat.zero_le _, rfl, rfl, by simp [baseP], HGI, ⟨Kd.R_nil _ _ _ _ _⟩, HO3, HL0, ⟨by simp [Value.ownBlock]⟩⟩
      case round =>
        clear HL0 HO3 HGI
        obtain ⟨t, Ps, T, lf, ht, rfl, hTl, hPl, HGI, HT, HO, HL, HX⟩ := hrel
        obtain ⟨AT, cT, eT⟩ := Kd.R_slice HT.out
        subst eT
        have HTLT := Sh.mk hTl
        by_cases hlt : t < np
        · have hsm := HGI.out.sm
          rw [hPl, ← HPR.out, ← HNP.out, hTl] at hsm
          obtain ⟨L', x, t1, t2, t3, t4⟩ := HGI.out.take HCC.out (by omega)
          have T4 := Sh.mk t4
          have HT1 := Sh.mk t1
          obtain ⟨y, hy⟩ : ∃ y : Nat, y = x / 512 := ⟨_, rfl⟩
          have e3 : Int.tdiv (x : Int) 512 = (y : Int) := by rw [Int.tdiv_eq_ediv_of_nonneg (by omega)]; omega
          have e4 : (x : Int) / 512 = (y : Int) := by omega
          have hyi : (y : Int) < 4 := by have := HN4.out; omega
          have hy4 : y < 4 := by omega
          have HE5 : Sh (Value.int .i64 (wrap64 (y : Int)) = Value.int .i64 (y : Int)) := ⟨by rw [show wrap64 (y : Int) = (y : Int) by unfold wrap64; omega]⟩
          have hct := HGI.out.ct y hy4
          have hcle : cnt T y ≤ T.length := List.countP_le_length
          obtain ⟨l, hl⟩ : ∃ l, l = rd0 lf y := ⟨_, rfl⟩
          rw [← hl] at hct
          have w5' : IntKind.i64.wrap (l + 1) = l + 1 := by rw [IntKind.wrap_i64]; omega
          have hxb : ¬ 512 * (i : Int) ≤ (x : Int) := by omega
          have hxb2 : (x : Int) < 512 * (i : Int) := by omega
          have z1 : (t : Int) < (np : Int) := by omega
          rw [← hy, ← hl] at T4
          have HTL : Sh (T.length ≤ 64) := ⟨by omega⟩
          have HLL : Sh (y < lf.length) := ⟨by rw [HGI.out.ll]; exact hy4⟩
          have HLE := Sh.mk hl
          have HPL' : Sh (L'.length = i) := ⟨by omega⟩
          have HLT := Sh.mk hlt
          clear hsm t1 t2 t4 hy hct hcle hl hlt hTl hPl
          go_wp2_with fail
          (with_reducible refine (own_take HO.out).mono ?_); rintro e w5 ⟨rfl, ho, hx⟩
          rw [HT1.out] at ho ⊢
          have HO5 := Sh.mk ho
          have HT5 := Sh.mk (R_keepX HT.out hx (fun _ h => .inr h))
          have HL5 : Sh (Blk w5 gl 3 (I64s lf)) := ⟨(hx gl (.inl rfl)).trans HL.out⟩
          have HGI5 := Sh.mk (T4.out ho.good)
          clear ho hx HO HT HL T4 HT1
          go_upto_region 21 with (first | ((with_reducible refine gate_builtin (b := .append) (xs := #[.tmp 81, .tmp 83]) rfl ?_); at_builtin; refine Kd.R_append (Kd.int .i64) (w0 := w) w.heap.size rfl (.tmp 81) (.tmp 83) 37 3 (.int .i64 0) 8 rfl Try.underlying37 info_i64 rfl (by decide) (by omega) (.slice AT T.length cT) T (x : Int) [.int .i64 (x : Int)] (fun _ => True) (fun _ => False) rfl rfl ?aP (fun _ hk => hk.elim) ?aF ?aO ?aB ?aS ?aL ?_; (case aP => exact rfl); (case aB => exact HO5.out.bl); (case aF => exact (fun _ _ => trivial)); (case aO => exact Kd.R_mono HT5.out (fun _ _ => trivial)); (case aS => exact HO5.out.bl.size); (case aL => have := HTL.out; omega); intro v1 w8 ho hb hg hat; have HO' := Sh.mk ho; have HG' := Sh.mk hg; have HAT' := Sh.mk hat; clear ho hb hg hat))
          have HL8 : Sh (Blk w8 gl 3 (I64s lf)) := ⟨(HG'.out.block gl HL5.out.lt (fun e => HX.out e.symm)).trans HL5.out⟩
          have HX8 : Sh (v1.ownBlock ≠ some gl) := ⟨by
            rcases HAT'.out with ha | ⟨b, ha, hbl⟩
            · rw [ha]; exact HX.out
            · rw [ha]; intro e; simp at e; subst e; have := HL5.out.lt; omega⟩
          have HO8 : Sh (Own w (fun q => q = gl ∨ some q = v1.ownBlock) ga gp c 32 L' w8) := ⟨HO5.out.step (fun q hq hn => HG'.out.block q hq (fun e => hn (.inr e))) (HO5.out.bl.grown HG'.out HO5.out.bl.size (fun q hq => ((Kd.R_bound HT5.out).1 q hq).2.1)) HG'.out.size (fun q hq => by
            rcases hq with rfl | hq
            · exact .inl (.inl rfl)
            · have hb := (Kd.R_bound HO'.out).1 q hq.symm
              rcases HAT'.out with ha | ⟨b, ha, hbl⟩
              · exact .inl (.inr (by rw [hq, ha]))
              · rw [← hq] at ha; cases ha; exact .inr ⟨hbl, hb.2.2.1⟩)⟩
          have HT8 := Sh.mk (Kd.R_tight rfl HO'.out)
          have HO9 : Sh (Own w (fun q => q = gl ∨ some q = v1.ownBlock) ga gp c 32 L' (w8.setCell ⟨gl, y, none⟩ (.int .i64 (l + 1)))) := ⟨HO8.out.step (fun k hk hn => Below.heap_setCell _ _ _ _ (by rintro rfl; exact hn (.inl rfl))) (HO8.out.bl.setCell (p := ⟨gl, y, none⟩) HGE.out _) (by simp [World.setCell]) (fun k hk => .inl hk)⟩
          have HT9 := Sh.mk (Kd.R_step (w1 := w8.setCell ⟨gl, y, none⟩ (.int .i64 (l + 1))) HT8.out (fun k hk _ => Below.heap_setCell _ _ _ _ (by rintro rfl; exact HX8.out hk.symm)))
          have HL9 : Sh (Blk (w8.setCell ⟨gl, y, none⟩ (.int .i64 (l + 1))) gl 3 (I64s (lf.set y (l + 1)))) := ⟨by have := HL8.out.set_ y (.int .i64 (l + 1)); rwa [I64s_set] at this⟩
          have c0' := HL8.out.cell y
          rw [I64s_at lf y HLL.out, ← HLE.out] at c0'
          have c1' := HL8.out.frozen y
          have e5 := HE5.out
          clear HO5 HT5 HL5 HO' HG' HAT' HO8 HT8 HL8 HX
          go_upto_region 16 with fail
          clear c0' c1' e5
          go_wp2_with fail
          go_roundw
          case rel => exact ⟨t + 1, L', T ++ [(x : Int)], _, by have := HLT.out; omega, by go_num, (by have := HTLT.out; simp; omega), HPL'.out, HGI5, HT9, HO9, HL9, HX8⟩
          case measure => have := HLT.out; simp [intOf]; omega
        · obtain rfl : t = np := by omega
          have hsm := HGI.out.sm
          rw [hPl, ← HPR.out, ← HNP.out, hTl] at hsm
          have HFR : Sh (∀ p ∈ Ps, p.free.length < perC c) := ⟨fun p hp => by
            have h1 : p.free.length ≤ tot Ps := tot_le hp
            rw [← HPR.out]; omega⟩
          have z1 : ¬ (t : Int) < (t : Int) := by omega
          clear hsm hlt ht hTl hPl
          go_upto_region 22 with fail
          go_wp2
          -- AFTER2
          go_loopw [13, 18] (fun ov jv wr => ∃ (j : Nat) (Ps : List Pt) (T lf : List Int), j + T.length = t ∧ jv = .int .i64 j ∧ Sh (GInv c i Ps T lf) ∧ Sh (∀ p ∈ Ps, p.free.length < perC c) ∧ Sh (Kd.R (Kd.int .i64) 3 wr w.heap.size (fun k => some k = ov.ownBlock) ov T) ∧ Sh (Own w (fun k => k = gl ∨ some k = ov.ownBlock) ga gp c 32 Ps wr) ∧ Sh (Blk wr gl 3 (I64s lf)) ∧ Sh (ov.ownBlock ≠ some gl)) (fun _ jv _ => t - (intOf jv).toNat)
          case atStart => exact ⟨0, Ps, T, lf, (by have := HTLT.out; omega), rfl, HGI, HFR, HT, HO, HL, HX⟩
          case round =>
            clear HGI HFR HT HO HL HX HTLT
            obtain ⟨j, Ps, T, lf, hjT, rfl, HGI, HFR, HT, HO, HL, HX⟩ := hrel
            obtain ⟨AT, cT, eT⟩ := Kd.R_slice HT.out
            subst eT
            by_cases hT0 : T.length = 0
            · obtain rfl : T = [] := List.length_eq_zero_iff.1 hT0
              obtain rfl : Ps = [] := HGI.out.end_ HCC.out HFR.out
              have z2 : ¬ (0 : Int) < (0 : Int) := by omega
              clear hT0 hjT
              simp only [List.length_nil]
              go_wp2_with fail
              (with_reducible refine (own_take HO.out).mono ?_); rintro e w5 ⟨rfl, ho, -⟩
              rw [show takeR [] = ([], 0, 2) from rfl] at ho ⊢
              have HO5 := Sh.mk ho
              clear ho HO HT HL
              go_wp2_with fail
              (with_reducible refine (own_spans HO5.out).mono ?_); rintro e w6 ⟨v, rfl, hs, hbs⟩
              obtain ⟨As, cs, rfl⟩ := Kd.R_slice hs
              have HO6 := Sh.mk (HO5.out.below hbs)
              clear hs hbs HO5
              rw [show (partsP []).length = 0 from rfl]
              go_wp2_with fail
              (with_reducible refine (own_len HO6.out).mono ?_); rintro e w7 ⟨rfl, hb⟩
              have HO7 := Sh.mk (HO6.out.below hb)
              clear hb HO6
              rw [show (tot [] : Nat) = 0 from rfl]
              go_wp2_with fail
              (with_reducible refine (own_free HO7.out).mono ?_); rintro e w8 ⟨v, rfl, hs, hbs⟩
              obtain ⟨As2, cs2, rfl⟩ := Kd.R_slice hs
              have HO8 := Sh.mk (HO7.out.below hbs)
              clear hs hbs HO7
              rw [show (freeP []).length = 0 from rfl]
              go_wp2_with fail
              (with_reducible refine (HAW.out _).mono ?_); rintro e w9 ⟨rfl, hb⟩
              have HB9 := Sh.mk (below_step HO8.out.bl hb)
              clear hb
              go_wp2
              go_ret
              exact ⟨rfl, HB9.out⟩
            · have z2 : (0 : Int) < (T.length : Int) := by omega
              have hz0 : ¬ (T.length : Int) = 0 := by omega
              go_upto_if 100 with fail
              go_cut [19] from 92 to 108 (fun s19 wx => ∃ k : Nat, k < T.length ∧ s19 = .int .i64 k ∧ wx = wr)
              case first =>
                by_cases hjn : j < nn
                · obtain ⟨ad, rfl, q0⟩ := C_cell (Kd.C_below HR.out HO.out.bl) j hjn
                  have h0 := HRN.out j
                  obtain ⟨x, hx⟩ : ∃ x, x = rd0 ns j := ⟨_, rfl⟩
                  rw [← hx] at q0 h0
                  obtain ⟨r, hr⟩ : ∃ r : Nat, r = x.toNat % T.length := ⟨_, rfl⟩
                  have hrl : r < T.length := by rw [hr]; exact Nat.mod_lt _ (by omega)
                  have hkr : x % (T.length : Int) = (r : Int) := by rw [hr, Int.natCast_emod, Int.toNat_of_nonneg (by omega)]
                  have hkt : Int.tmod x (T.length : Int) = (r : Int) := by rw [Int.tmod_eq_emod_of_nonneg (by omega)]; exact hkr
                  have zj : (j : Int) < (nn : Int) := by omega
                  clear hx hr
                  go_wp2_with fail
                  go_meet
                  case rel => exact ⟨r, hrl, rfl, rfl⟩
                · have zj : ¬ (j : Int) < (nn : Int) := by omega
                  go_wp2_with fail
                  go_meet
                  case rel => exact ⟨0, by omega, rfl, rfl⟩
              case rest =>
              obtain ⟨k, hk, rfl, rfl⟩ := hcut
              obtain ⟨wv, hwv⟩ : ∃ x, x = wc := ⟨_, rfl⟩
              subst hwv
              obtain ⟨ai, hai⟩ : ∃ a, T[k]? = some a := ⟨_, List.getElem?_eq_getElem hk⟩
              have ha0 : 0 ≤ ai := by
                obtain ⟨p, hp, hh, _⟩ := (HGI.out.mt ai).1 (List.mem_of_getElem? hai)
                have := hit_bd hh
                have := (HGI.out.gd.1 p hp).1
                omega
              obtain ⟨a, rfl⟩ : ∃ a : Nat, ai = a := Int.eq_ofNat_of_zero_le ha0
              obtain ⟨L', g, t1, t2, t3, t4⟩ := HGI.out.put HCC.out HN4.out.2 HFR.out hai
              obtain ⟨y, hy⟩ : ∃ y : Nat, y = a / 512 := ⟨_, rfl⟩
              have e3 : Int.tdiv (a : Int) 512 = (y : Int) := by rw [Int.tdiv_eq_ediv_of_nonneg (by omega)]; omega
              have e4 : (a : Int) / 512 = (y : Int) := by omega
              have hyi : (y : Int) < 4 := by have := HN4.out; omega
              have hy4 : y < 4 := by omega
              have HE5 : Sh (Value.int .i64 (wrap64 (y : Int)) = Value.int .i64 (y : Int)) := ⟨by rw [show wrap64 (y : Int) = (y : Int) by unfold wrap64; omega]⟩
              have hct := HGI.out.ct y hy4
              have hcle : cnt T y ≤ T.length := List.countP_le_length
              obtain ⟨l, hl⟩ : ∃ l, l = rd0 lf y := ⟨_, rfl⟩
              rw [← hl] at hct
              rw [← hy, ← hl] at t3 t4
              rw [e4] at t1
              have w5' : IntKind.i64.wrap (l - 1) = l - 1 := by rw [IntKind.wrap_i64]; omega
              have w6' : IntKind.i64.wrap (8 * (y : Int)) = 8 * (y : Int) := by rw [IntKind.wrap_i64]; omega
              have w7' : IntKind.i64.wrap ((k : Int) + 1) = (k : Int) + 1 := by rw [IntKind.wrap_i64]; omega
              have hbg : (l - 1 == 0) = g := by
                rw [t3]
                by_cases e : l - 1 = 0
                · rw [decide_eq_true e]; exact beq_iff_eq.2 e
                · rw [decide_eq_false e]; exact beq_eq_false_iff_ne.2 e
              obtain ⟨at_, hAt, g0⟩ := C_cell (Kd.R_reads' HT.out).2.2 k hk
              subst hAt
              rw [show rd0 T k = (a : Int) by unfold rd0; rw [List.getD_eq_getElem?_getD, hai]; rfl] at g0
              have HC := Sh.mk (Kd.R_reads' HT.out)
              obtain ⟨i0, hi0, hz00, hz1, hz2⟩ := info_parts info_i64
              have hki : (k : Int) < (T.length : Int) := by omega
              have hcut1 := cut_to (P := Try.prog) 37 3 .i64 Try.underlying37 hi0 (some at_) T.length cT (k : Int) (by omega) (by omega) HC.out.2.1
              have hcut2 := cut_from (P := Try.prog) 37 3 .i64 Try.underlying37 hi0 1 hz1 (some at_) T.length cT ((k : Int) + 1) (by omega) (by omega)
              rw [show ((k : Int) + 1).toNat = k + 1 by omega] at hcut2
              rw [Int.toNat_natCast] at hcut1
              obtain ⟨A2, hA2⟩ : ∃ A, A = (if cT = k + 1 then some at_ else (some at_ : Option Addr).map (·.add ((k + 1) * 1))) := ⟨_, rfl⟩
              have hCd : Kd.C (Kd.int .i64) wv A2 (T.drop (k + 1)).length (T.drop (k + 1)) := by rw [hA2]; exact Kd.C_drop HC.out.2.2 (by omega) HC.out.2.1
              have hCt : Kd.C (Kd.int .i64) wv (some at_) (T.take k).length (T.take k) := Kd.C_take HC.out.2.2 (by omega)
              rw [show (T.drop (k + 1)).length = T.length - (k + 1) by simp] at hCd
              rw [show (T.take k).length = k by simp; omega] at hCt
              rw [← hA2] at hcut2
              obtain ⟨m2, hm2⟩ : ∃ m, m = T.length - (k + 1) := ⟨_, rfl⟩
              obtain ⟨c2, hc2⟩ : ∃ m, m = cT - (k + 1) := ⟨_, rfl⟩
              rw [← hm2] at hcut2 hCd
              rw [← hc2] at hcut2
              have HCT : Sh (∀ V, Below wv.heap.size wv V → Kd.C (Kd.int .i64) V (some at_) k (T.take k)) := ⟨fun V hV => Kd.C_below hCt hV⟩
              have HCD : Sh (∀ V, Below wv.heap.size wv V → Kd.C (Kd.int .i64) V A2 m2 (T.drop (k + 1))) := ⟨fun V hV => Kd.C_below hCd hV⟩
              have HL1 : Sh ((([] : List Int).length + k) * 8 ≤ 140737488355328) := ⟨by simp; omega⟩
              have HL2 : Sh (((T.take k).length + m2) * 8 ≤ 140737488355328) := ⟨by simp; omega⟩
              have HT1 := Sh.mk t1
              have T4 := Sh.mk t4
              have HLL : Sh (y < lf.length) := ⟨by rw [HGI.out.ll]; exact hy4⟩
              have HLE := Sh.mk hl
              have HJT : Sh (j + 1 + (T.take k ++ T.drop (k + 1)).length = t) := ⟨by simp; omega⟩
              have hlen2 : (T.take k ++ T.drop (k + 1)).length ≤ 64 := by simp; omega
              obtain ⟨T', hT'⟩ : ∃ T', T' = T.take k ++ T.drop (k + 1) := ⟨_, rfl⟩
              have HTE := Sh.mk hT'
              clear hT'
              clear hai ha0 t1 t2 t3 t4 hy hct hcle hl hA2 hCd hCt hm2 hc2 hi0 hz00 hz1 hz2
              go_upto_region 29 with fail
              clear g0
              refine start_ (n := 11) (S := fun _ => True) (ds := []) #[false, false, false, false, false, false, false, false, false, false, false] (by kernel_rfl) rfl rfl trivial (fun hHeld => ?_)
              have HBw := Sh.mk (Below.refl wv.heap.size wv).drew
              generalize wv.drew = wd at HBw ⊢
              refine pure_ (i := 1) (N := some 114) (v := ?_) (a' := ?_) #[false, true, false, false, false, false, false, false, false, false, false] rfl rfl (by kernel_rfl) (fun _ _ _ h => h) (Or.inl ⟨by rfl, ?_⟩) ?_ ?_
              rotate_left
              · intro w'
                go_simp
                with_reducible rfl
              rotate_left
              · simp only [Act.put, List.setIfInBounds_toArray, List.set_cons_zero, List.set_cons_succ, Go.Proofs.YtmmpdpnonnjadaaW.PrintLast.i64_w]
                rfl
              refine pure_ (i := 2) (N := some 115) (v := ?_) (a' := ?_) #[false, true, true, false, false, false, false, false, false, false, false] rfl rfl (by kernel_rfl) (fun _ _ _ h => h) (Or.inl ⟨by rfl, ?_⟩) ?_ ?_
              rotate_left
              · intro w'
                go_simp
                with_reducible rfl
              rotate_left
              · simp only [Act.put, List.setIfInBounds_toArray, List.set_cons_zero, List.set_cons_succ, Go.Proofs.YtmmpdpnonnjadaaW.PrintLast.i64_w]
                rfl
              refine pure_ (i := 3) (N := some 116) (v := ?_) (a' := ?_) #[false, true, true, true, false, false, false, false, false, false, false] rfl rfl (by kernel_rfl) (fun _ _ _ h => h) (Or.inl ⟨by rfl, ?_⟩) ?_ ?_
              rotate_left
              · intro w'
                go_simp
                with_reducible rfl
              rotate_left
              · simp only [Act.put, List.setIfInBounds_toArray, List.set_cons_zero, List.set_cons_succ, Go.Proofs.YtmmpdpnonnjadaaW.PrintLast.i64_w]
                rfl
              refine pure_ (i := 5) (N := some 118) (v := ?_) (a' := ?_) #[false, true, true, true, false, true, false, false, false, false, false] rfl rfl (by kernel_rfl) (fun _ _ _ h => h) (Or.inl ⟨by rfl, ?_⟩) ?_ ?_
              rotate_left
              · intro w'
                go_simp
                with_reducible rfl
              rotate_left
              · simp only [Act.put, List.setIfInBounds_toArray, List.set_cons_zero, List.set_cons_succ, Go.Proofs.YtmmpdpnonnjadaaW.PrintLast.i64_w]
                rfl
              refine pure_ (i := 6) (N := some 119) (v := ?_) (a' := ?_) #[false, true, true, true, false, true, true, false, false, false, false] rfl rfl (by kernel_rfl) (fun _ _ _ h => h) (Or.inl ⟨by rfl, ?_⟩) ?_ ?_
              rotate_left
              · intro w'
                go_simp
                with_reducible rfl
              rotate_left
              · simp only [Act.put, List.setIfInBounds_toArray, List.set_cons_zero, List.set_cons_succ, Go.Proofs.YtmmpdpnonnjadaaW.PrintLast.i64_w]
                rfl
              refine pure_ (i := 7) (N := some 120) (v := ?_) (a' := ?_) #[false, true, true, true, false, true, true, true, false, false, false] rfl rfl (by kernel_rfl) (fun _ _ _ h => h) (Or.inl ⟨by rfl, ?_⟩) ?_ ?_
              rotate_left
              · intro w'
                go_simp
                with_reducible rfl
              rotate_left
              · simp only [Act.put, List.setIfInBounds_toArray, List.set_cons_zero, List.set_cons_succ, Go.Proofs.YtmmpdpnonnjadaaW.PrintLast.i64_w]
                rfl
              refine pure_ (i := 8) (N := some 121) (v := ?_) (a' := ?_) #[false, true, true, true, false, true, true, true, true, false, false] rfl rfl (by kernel_rfl) (fun _ _ _ h => h) (Or.inl ⟨by rfl, ?_⟩) ?_ ?_
              rotate_left
              · intro w'
                go_simp
                with_reducible rfl
              rotate_left
              · simp only [Act.put, List.setIfInBounds_toArray, List.set_cons_zero, List.set_cons_succ, Go.Proofs.YtmmpdpnonnjadaaW.PrintLast.i64_w]
                rfl
              refine one_ (i := 0) (N := some 113) #[true, true, true, true, false, true, true, true, true, false, false] rfl rfl (by kernel_rfl) (by decide) (fun K hK => ?_)
              refine val_ (.slice (some ⟨wd.heap.size, 0, none⟩) 0 0) (wd.alloc (.cells #[] 3)) (by rfl) rfl (by first | (go_simp; done) | (go_simp; rfl)) ?_
              have HBa := Sh.mk (below_alloc HBw.out (.cells #[] 3))
              have HOa : Sh (Kd.R (Kd.int .i64) 3 (wd.alloc (.cells #[] 3)) wv.heap.size (fun _ => True) (.slice (some ⟨wd.heap.size, 0, none⟩) 0 0) []) := ⟨⟨fun _ _ => trivial, [], World.ownsRow_made wd #[] 0 HBw.out.size (by simp [maxLen]) (by rfl), Reps.none _ _⟩⟩
              obtain ⟨gq, hgq⟩ : ∃ g, g = wd.heap.size := ⟨_, rfl⟩
              rw [← hgq] at HOa ⊢
              clear hgq
              obtain ⟨we, hwe⟩ : ∃ z, z = wd.alloc (.cells #[] 3) := ⟨_, rfl⟩
              rw [← hwe] at HOa HBa ⊢
              clear hwe HBw
              refine hK.out _ _ trivial (fun hHeld2 => ?_)
              clear hK K
              refine norm_ (a' := ?_) ?_ ?_
              rotate_left
              · show Act.put _ (some 113) _ = _
                simp only [Act.put, List.setIfInBounds_toArray, List.set_cons_zero, List.set_cons_succ, Go.Proofs.YtmmpdpnonnjadaaW.PrintLast.i64_w]
                rfl
              refine one_ (i := 4) (N := some 117) #[true, true, true, true, true, true, true, true, true, false, false] rfl rfl (by kernel_rfl) (by decide) (fun K hK => ?_)
              refine Kd.R_append_rows_step (Kd.int .i64) (w0 := wv) wv.heap.size (by rfl) (.tmp 113) (.tmp 116) 37 3 (.int .i64 0) 8 rfl Try.underlying37 info_i64 rfl (by decide) (by omega) (.slice (some ⟨gq, 0, none⟩) 0 0) [] (T.take k) _ _ _ (fun _ => True) (fun _ => False) rfl rfl HOa.out (HCT.out _ HBa.out) (fun _ _ h => h) (fun _ h => h.elim) (fun _ _ => trivial) HBa.out HBa.out.size HL1.out ?_
              intro v1 wf ho hb hg hat
              clear hg hat
              rw [List.nil_append] at ho
              have HOb := Sh.mk ho
              have HBb := Sh.mk hb
              clear ho hb HOa
              obtain ⟨Ab, cb, eb⟩ := Kd.R_slice HOb.out
              subst eb
              refine hK.out _ _ trivial (fun hHeld3 => ?_)
              clear hK K
              refine norm_ (a' := ?_) ?_ ?_
              rotate_left
              · show Act.put _ (some 117) _ = _
                simp only [Act.put, List.setIfInBounds_toArray, List.set_cons_zero, List.set_cons_succ, Go.Proofs.YtmmpdpnonnjadaaW.PrintLast.i64_w]
                rfl
              refine one_ (i := 9) (N := some 122) #[true, true, true, true, true, true, true, true, true, true, false] rfl rfl (by kernel_rfl) (by decide) (fun K hK => ?_)
              refine Kd.R_append_rows_step (Kd.int .i64) (w0 := wv) wv.heap.size (by rfl) (.tmp 117) (.tmp 121) 37 3 (.int .i64 0) 8 rfl Try.underlying37 info_i64 rfl (by decide) (by omega) (.slice Ab (T.take k).length cb) (T.take k) (T.drop (k + 1)) _ _ _ (fun _ => True) (fun _ => False) rfl rfl HOb.out (HCD.out _ HBb.out) (fun _ _ h => h) (fun _ h => h.elim) (fun _ _ => trivial) HBb.out HBb.out.size HL2.out ?_
              intro v2 wg ho hb hg hat
              clear hg hat
              rw [← HTE.out] at ho
              have HOc := Sh.mk ho
              have HBc := Sh.mk hb
              clear ho hb HOb HBb HBa
              obtain ⟨Ac, cc_, ec⟩ := Kd.R_slice HOc.out
              subst ec
              refine hK.out _ _ trivial (fun hHeld4 => ?_)
              clear hK K
              refine norm_ (a' := ?_) ?_ ?_
              rotate_left
              · show Act.put _ (some 122) _ = _
                simp only [Act.put, List.setIfInBounds_toArray, List.set_cons_zero, List.set_cons_succ, Go.Proofs.YtmmpdpnonnjadaaW.PrintLast.i64_w]
                rfl
              refine pure_ (i := 10) (N := some 13) (v := ?_) (a' := ?_) #[true, true, true, true, true, true, true, true, true, true, true] rfl rfl (by kernel_rfl) (fun _ _ _ h => h) (Or.inl ⟨by rfl, ?_⟩) ?_ ?_
              rotate_left
              · intro w'
                go_simp
                with_reducible rfl
              rotate_left
              · simp only [Act.put, List.setIfInBounds_toArray, List.set_cons_zero, List.set_cons_succ, Go.Proofs.YtmmpdpnonnjadaaW.PrintLast.i64_w]
                rfl
              refine done_ (by kernel_rfl) ?_
              rw [← HTE.out] at T4 HJT hlen2
              clear HTE hcut1 hcut2 HCT HCD HL1 HL2
              have HOg : Sh (Own w (fun q => q = gl ∨ some q = (Value.slice Ac T'.length cc_).ownBlock) ga gp c 32 Ps wg) := ⟨HO.out.step (fun q hq _ => HBc.out.block q hq) (below_step HO.out.bl HBc.out) HBc.out.size (fun q hq => by
                rcases hq with rfl | hq
                · exact .inl (.inl rfl)
                · have hb := (Kd.R_bound HOc.out).1 q hq.symm
                  exact .inr ⟨hb.2.1, hb.2.2.1⟩)⟩
              have HXg : Sh ((Value.slice Ac T'.length cc_).ownBlock ≠ some gl) := ⟨fun e => by
                have hb := (Kd.R_bound HOc.out).1 gl e
                have := HL.out.lt
                omega⟩
              have HTg := Sh.mk (Kd.R_lower (Kd.R_tight rfl HOc.out) HO.out.bl.size)
              have HLg : Sh (Blk wg gl 3 (I64s lf)) := ⟨HL.out.kp (Kp.of_below HBc.out []) (by simp)⟩
              clear HOc HBc HO HT HL HX HC HGI
              go_wp2_with fail
              (with_reducible refine (own_put HOg.out (a : Int)).mono ?_); rintro e w5 ⟨rfl, ho, hx⟩
              rw [HT1.out] at ho ⊢
              have HO5 := Sh.mk ho
              have HT5 := Sh.mk (R_keepX HTg.out hx (fun _ h => .inr h))
              have HL5 : Sh (Blk w5 gl 3 (I64s lf)) := ⟨(hx gl (.inl rfl)).trans HLg.out⟩
              have HGI5 := Sh.mk (T4.out ho.good)
              clear ho hx HOg HTg HLg T4 HT1
              have e5 := HE5.out
              have c0' := HL5.out.cell y
              rw [I64s_at lf y HLL.out, ← HLE.out] at c0'
              have c1' := HL5.out.frozen y
              have HO9 : Sh (Own w (fun q => q = gl ∨ some q = (Value.slice Ac T'.length cc_).ownBlock) ga gp c 32 L' (w5.setCell ⟨gl, y, none⟩ (.int .i64 (l - 1)))) := ⟨HO5.out.step (fun k hk hn => Below.heap_setCell _ _ _ _ (by rintro rfl; exact hn (.inl rfl))) (HO5.out.bl.setCell (p := ⟨gl, y, none⟩) HGE.out _) (by simp [World.setCell]) (fun k hk => .inl hk)⟩
              have HT9 := Sh.mk (Kd.R_step (w1 := w5.setCell ⟨gl, y, none⟩ (.int .i64 (l - 1))) HT5.out (fun k hk _ => Below.heap_setCell _ _ _ _ (by rintro rfl; exact HXg.out hk.symm)))
              have HL9 : Sh (Blk (w5.setCell ⟨gl, y, none⟩ (.int .i64 (l - 1))) gl 3 (I64s (lf.set y (l - 1)))) := ⟨by have := HL5.out.set_ y (.int .i64 (l - 1)); rwa [I64s_set] at this⟩
              clear HO5 HT5 HL5
              go_upto_region 24 with fail
              clear c0' c1' e5
              go_wp2_with fail
              go_roundw
              case rel => exact ⟨j + 1, L', T', _, HJT.out, by go_num, ⟨HGI5.out.1⟩, ⟨HGI5.out.2⟩, HT9, HO9, HL9, HXg⟩
              case measure => have := HJT.out; simp [intOf]; omega
theorem poolGone_walk (a0 a1 : Int) (A2 : Option Addr) (c2 : Nat) (l2 : List Int) (w : World) (hw0 : (Lit.int .u8 a0).wf = true) (hw1 : (Lit.int .u8 a1).wf = true) (hr2 : Kd.C (Kd.int .u8) w A2 l2.length l2) (hc2 : l2.length ≤ c2) (hw2 : ∀ x ∈ l2, (Lit.int .u8 x).wf = true) (y2 : l2.length * 1 ≤ 140737488351232) :
    Calls Try.prog 7 #[.int .u8 a0, .int .u8 a1, .slice A2 l2.length c2] w fun e w' => e = .returned (.bool true) ∧ Below w.heap.size w w' :=
  poolGone_any a0 a1 A2 c2 l2 w (wf8 hw0) (wf8 hw1) hr2 hw2 y2
end Go.Proofs.Ytmmpdpnonnjadaa
