/- PoolOnce's walk: no stack is taken twice ahead of being put back. No statement is proved here. -/
import Derived.Test.YtmmpdpnonnjadaaOnceLaw
namespace Go.Proofs.Ytmmpdpnonnjadaa
set_option linter.unusedVariables false
set_option linter.unusedSimpArgs false
open Go.RowKit Go.Proofs.YtmmpdpnonnjadaaW.PrintWords Go.Proofs.YtmmpdpnonnjadaaW.PrintLast Go.Proofs.YtmmpdpnonnjadaaW.PrintMore Pr

def Bls (l : List Bool) : Array Value := (l.map Value.bool).toArray
theorem Bls_at (l : List Bool) (i : Nat) (h : i < l.length) : (Bls l)[i]? = some (.bool (rdb l i)) := by
  simp [rdb, Bls, List.getElem?_map, List.getElem?_eq_getElem h, List.getD_eq_getElem?_getD]
theorem Bls_set (l : List Bool) (i : Nat) (b : Bool) : (Bls l).setIfInBounds i (.bool b) = Bls (l.set i b) := by
  simp [Bls, List.map_set]
theorem Bls_zero (n : Nat) : (List.replicate n (Value.bool false)).toArray = Bls (List.replicate n false) := by simp [Bls, List.map_replicate]
theorem run_make_boolB (n : Nat) (h1 : n ≤ 100000) (w : World) :
    (Instr.makeSlice 27 (.int .i64 (n : Int)) (.int .i64 (n : Int))).run Try.prog w = .ok (.slice (some ⟨w.heap.size, 0, none⟩) n n) (w.alloc (.cells (Bls (List.replicate n false)) 4)) := by
  obtain ⟨i0, hi0, hz0, hz1, hz2⟩ := info_parts info_bool
  have hr := run_make_rowN (P := Try.prog) 27 4 i0 (.bool false) Try.underlying27 hi0 hz0 .i64 .i64 n n (Nat.le_refl _) (by rw [hz2]; omega) (by omega) w
  rw [hr, hz1, Nat.mul_one, show (Value.bool false).cells = #[.bool false] from rfl, madeCells_one, Bls_zero]
theorem sh32 {c : Int} (h : 0 ≤ c ∧ c ≤ 3) : wrap64 (32 * 2 ^ c.toNat) = wdC c := by
  rcases (show c = 0 ∨ c = 1 ∨ c = 2 ∨ c = 3 by omega) with rfl | rfl | rfl | rfl <;> first | decide | (simp [wdC, sizeRow, wrap64]; done) | (unfold wrap64 wdC sizeRow; simp)
set_option maxRecDepth 100000 in
set_option maxHeartbeats 8000000 in
theorem poolOnce_any (cl : Int) (A0 : Option Addr) (c0 : Nat) (ns : List Int) (w : World) (hcl : 0 ≤ cl ∧ cl ≤ 255) (hr : Kd.C (Kd.int .u8) w A0 ns.length ns) (hw : ∀ x ∈ ns, (Lit.int .u8 x).wf = true) (hy : ns.length * 1 ≤ 140737488351232) :
    Calls Try.prog 3 #[.int .u8 cl, .slice A0 ns.length c0] w fun e w' => e = .returned (.bool true) ∧ Below w.heap.size w w' := by
  obtain ⟨c, hc⟩ : ∃ c, c = cl % 4 := ⟨_, rfl⟩
  have hcc : 0 ≤ c ∧ c ≤ 3 := by omega
  have v1 : IntKind.i64.wrap cl = cl := by rw [IntKind.wrap_i64]; omega
  have v2 : Int.tmod cl 4 = c := by rw [Int.tmod_eq_emod_of_nonneg (by omega)]; omega
  have v3 : cl % 4 = c := hc.symm
  have HCC := Sh.mk hcc
  have HRN : Sh (∀ i, 0 ≤ rd0 ns i ∧ rd0 ns i ≤ 255) := ⟨rd0_rng (fun x hx => wf8 (hw x hx)) (by omega) (by omega)⟩
  have HR := Sh.mk hr
  obtain ⟨n, hn⟩ : ∃ n, n = ns.length := ⟨_, rfl⟩
  have hn2 : n ≤ 140737488351232 := by omega
  rw [← hn] at HR ⊢
  have HAW : Sh (∀ V : World, Calls Try.prog 15 #[] V fun e w' => e = .returned (.bool true) ∧ Below V.heap.size V w') := ⟨fun V => awake_pool V⟩
  have hm1 : ∀ w : World, (Instr.makeSlice 27 (.int .i64 2048) (.int .i64 2048)).run Try.prog w = .ok (.slice (some ⟨w.heap.size, 0, none⟩) 2048 2048) (w.alloc (.cells (Bls (List.replicate 2048 false)) 4)) := fun w => run_make_boolB 2048 (by omega) w
  have hm2 : ∀ w : World, (Instr.makeSlice 27 (.int .i64 4) (.int .i64 4)).run Try.prog w = .ok (.slice (some ⟨w.heap.size, 0, none⟩) 4 4) (w.alloc (.cells (Bls (List.replicate 4 false)) 4)) := fun w => run_make_boolB 4 (by omega) w
  clear hc hcc hw hr hy hn
  go_enter Try.func3, Try.ntmps3
  go_wp2_with fail
  (with_reducible refine (new_any 32 w (by omega) (by omega)).mono ?_); rintro e w1 ⟨ga, gb, rfl, har, hg1, hg2, hb1⟩
  have H1 := Sh.mk (And.intro har (And.intro hg1 (And.intro hg2 hb1)))
  clear har hg1 hg2 hb1
  go_wp2_with fail
  (with_reducible refine (new_pool c w1 HCC.out).mono ?_); rintro e w2 ⟨gp, rfl, hp, hg3, hb2⟩
  have HO2 : Sh (Own w (fun _ => False) ga gp c (32 : Int).toNat [] w2) := ⟨own_made H1.out.1 H1.out.2.1 H1.out.2.2.1 H1.out.2.2.2 hp hg3 hb2 HCC.out (by omega)⟩
  clear hp hg3 hb2 H1
  -- FROM HERE
  obtain ⟨wd, hwd⟩ : ∃ x, x = wdC c := ⟨_, rfl⟩
  obtain ⟨pr, hpr⟩ : ∃ x, x = perC c := ⟨_, rfl⟩
  have HW0 : Sh (wrap64 (32 * 2 ^ c.toNat) = wd) := ⟨by rw [hwd]; exact sh32 HCC.out⟩
  have hwb : 32 ≤ wd ∧ wd ≤ 256 := by rw [hwd]; rcases cls_cases HCC.out with h | h | h | h <;> omega
  have hdv : (512 : Int) / wd = (pr : Int) ∧ 2 ≤ pr ∧ pr ≤ 16 := by rw [hwd, hpr]; rcases cls_cases HCC.out with ⟨_, h, h2⟩ | ⟨_, h, h2⟩ | ⟨_, h, h2⟩ | ⟨_, h, h2⟩ <;> rw [h, h2] <;> decide
  obtain ⟨hd1, hd2, hd3⟩ := hdv
  have hd4 : Int.tdiv 512 wd = (pr : Int) := by rw [Int.tdiv_eq_ediv_of_nonneg (by omega)]; exact hd1
  have HD5 : Sh (Value.int .i64 (wrap64 (pr : Int)) = Value.int .i64 (pr : Int)) := ⟨by rw [show wrap64 (pr : Int) = (pr : Int) by unfold wrap64; omega]⟩
  have HWD := Sh.mk hwd
  have HPR := Sh.mk hpr
  have hwz : ¬ wd = 0 := by omega
  have hw0 := HW0.out
  clear hwd hpr
  go_upto_region 6 with fail
  rw [hw0]
  clear hw0
  obtain ⟨go_, hgo⟩ : ∃ g, g = w2.heap.size := ⟨_, rfl⟩
  obtain ⟨gd_, hgd⟩ : ∃ g, g = w2.heap.size + 1 := ⟨_, rfl⟩
  have HB3 : Sh (Below w2.heap.size w2 ((w2.alloc (.cells (Bls (List.replicate 2048 false)) 4)).alloc (.cells (Bls (List.replicate 4 false)) 4))) := ⟨below_alloc (below_alloc (Below.refl _ _) _) _⟩
  have HBO3 : Sh (Blk ((w2.alloc (.cells (Bls (List.replicate 2048 false)) 4)).alloc (.cells (Bls (List.replicate 4 false)) 4)) go_ 4 (Bls (List.replicate 2048 false))) := ⟨(Blk.new_ _ _ _ hgo).alloc _⟩
  have HBD3 : Sh (Blk ((w2.alloc (.cells (Bls (List.replicate 2048 false)) 4)).alloc (.cells (Bls (List.replicate 4 false)) 4)) gd_ 4 (Bls (List.replicate 4 false))) := ⟨Blk.new_ _ _ _ (by simp; exact hgd)⟩
  have HO3 : Sh (Own w (fun k => k = go_ ∨ k = gd_) ga gp c 32 [] ((w2.alloc (.cells (Bls (List.replicate 2048 false)) 4)).alloc (.cells (Bls (List.replicate 4 false)) 4))) := ⟨HO2.out.step (fun k hk _ => HB3.out.block k hk) (below_step HO2.out.bl HB3.out) HB3.out.size (fun k hk => .inr (by
    have h1 := HBO3.out.lt
    have h2 := HBD3.out.lt
    rcases hk with rfl | rfl
    · exact ⟨by omega, h1⟩
    · exact ⟨by omega, h2⟩))⟩
  have HGE : Sh (w.heap.size ≤ go_ ∧ w.heap.size ≤ gd_) := ⟨by have := HO2.out.bl.size; omega⟩
  have HNE : Sh (go_ ≠ gd_) := ⟨by omega⟩
  have HOI : Sh (OInv c [] (List.replicate 2048 false) (List.replicate 4 false) 0 0) := ⟨⟨⟨by simp, by simp⟩, by simp, fun q hq => by
    have : rdb (List.replicate 4 false) q = false := by unfold rdb; rw [List.getD_eq_getElem?_getD, List.getElem?_replicate]; split <;> rfl
    rw [this]; simp, fun a ha => by
    have : rdb (List.replicate 2048 false) a = false := by unfold rdb; rw [List.getD_eq_getElem?_getD, List.getElem?_replicate]; split <;> rfl
    rw [this]; simp [taken], by simp [tot], by simp, by simp, by simp⟩⟩
  go_wp2
  rw [← hgd, ← hgo]
  clear hgo hgd HO2 HB3 hm1 hm2
  go_loopw [11, 12, 13] (fun av nv iv wr => ∃ (i : Nat) (PS : List Pt) (ol al : List Bool) (all m : Int), i ≤ 502 ∧ iv = .int .i64 i ∧ av = .int .i64 all ∧ nv = .int .i64 m ∧ Sh (OInv c PS ol al all m) ∧ Sh (Own w (fun k => k = go_ ∨ k = gd_) ga gp c 32 PS wr) ∧ Sh (Blk wr go_ 4 (Bls ol)) ∧ Sh (Blk wr gd_ 4 (Bls al))) (fun _ _ iv _ => 502 - (intOf iv).toNat)
  case atStart => exact ⟨0, [], _, _, 0, 0, by omega, rfl, rfl, rfl, HOI, HO3, HBO3, HBD3⟩
  case round =>
    clear HOI HO3 HBO3 HBD3
    obtain ⟨i, PS, ol, al, all, m, hi, rfl, rfl, rfl, OI, HO, HBO, HBD⟩ := hrel
    by_cases hgo : i + 1 < n ∧ i < 500
    · obtain ⟨hi1, hi2⟩ := hgo
      have hCn := Kd.C_below HR.out HO.out.bl
      obtain ⟨ad, rfl, q0⟩ := C_cell hCn i (by omega)
      obtain ⟨ad', e', q1⟩ := C_cell hCn (i + 1) (by omega)
      obtain rfl : ad = ad' := Option.some.inj e'
      clear e' hCn
      rw [Addr.add_succ'] at q1
      have h0 := HRN.out i
      have h1 := HRN.out (i + 1)
      obtain ⟨x, hx⟩ : ∃ x, x = rd0 ns i := ⟨_, rfl⟩
      obtain ⟨k, hk⟩ : ∃ x, x = rd0 ns (i + 1) := ⟨_, rfl⟩
      rw [← hx] at q0 h0
      rw [← hk] at q1 h1
      clear hx hk
      have z1 : (i : Int) + 1 < (n : Int) := by omega
      have z2 : (i : Int) < 500 := by omega
      have m6 : Int.tmod x 8 = x % 8 := Int.tmod_eq_emod_of_nonneg (by omega)
      obtain ⟨b1_, b2_, b3_, b4_⟩ := OI.out.bd HCC.out
      by_cases c0 : x % 8 = 0
      · have m6' : Int.tmod x 8 = 0 := by omega
        obtain ⟨q, hq⟩ : ∃ q : Nat, q = (k % 4).toNat := ⟨_, rfl⟩
        have hq4 : q < 4 := by omega
        have v4 : Int.tmod k 4 = (q : Int) := by rw [Int.tmod_eq_emod_of_nonneg (by omega)]; omega
        have v5 : k % 4 = (q : Int) := by omega
        have v6 : IntKind.i64.wrap (8 * (q : Int)) = 8 * (q : Int) := by rw [IntKind.wrap_i64]; omega
        have hqi : (q : Int) < 4 := by omega
        have d0 := (HBD.out.cell q).trans (Bls_at al q (by rw [OI.out.l2]; exact hq4))
        have df := HBD.out.frozen q
        have HQ4 := Sh.mk hq4
        have HQB : Sh (-9223372036854775808 ≤ 8 * (q : Int) ∧ 8 * (q : Int) ≤ 9223372036854775807) := ⟨by omega⟩
        cases hrq : rdb al q with
        | true =>
          rw [hrq] at d0
          clear m6 hq hrq b1_ b2_ b3_ b4_
          have hsm := OI.out.sm
          have hbd := OI.out.bd HCC.out
          obtain ⟨tt_, htt⟩ : ∃ t : Int, t = (tot PS : Nat) := ⟨_, rfl⟩
          have HLEN := Sh.mk (own_len HO.out)
          rw [← htt] at HLEN hsm
          have wl : IntKind.i64.wrap (all - (m)) = tt_ := by rw [IntKind.wrap_i64]; omega
          clear hsm hbd htt
          go_wp2_with fail
          (with_reducible refine HLEN.out.mono ?_); rintro e w9 ⟨rfl, hb⟩
          have HOW9 := Sh.mk (HO.out.below hb)
          have HBO9 := Sh.mk (HBO.out.kp (Kp.of_below hb []) (by simp))
          have HBD9 := Sh.mk (HBD.out.kp (Kp.of_below hb []) (by simp))
          clear hb HLEN
          go_wp2_with fail
          go_roundw
          case rel => exact ⟨i + 2, PS, ol, al, all, m, by omega, by go_num, rfl, rfl, OI, HOW9, HBO9, HBD9⟩
          case measure => simp [intOf]; omega
        | false =>
          rw [hrq] at d0
          obtain ⟨oa1, oa2⟩ := OI.out.add HCC.out hq4 hrq
          have HOA1 := Sh.mk oa1
          have HOA2 := Sh.mk oa2
          have w12 : IntKind.i64.wrap (all + (pr : Int)) = all + (pr : Int) := by rw [IntKind.wrap_i64]; omega
          have hd5 := HD5.out
          clear m6 hq hrq oa1 oa2 b1_ b2_ b3_ b4_
          go_wp2_with fail
          (with_reducible refine (own_add HO.out (8 * (q : Int)) HQB.out).mono ?_); rintro e w5 ⟨rfl, ho, hx⟩
          rw [HOA1.out] at ho ⊢
          have HO5 := Sh.mk ho
          have OI5 := Sh.mk (HOA2.out ho.good)
          rw [← HPR.out] at OI5
          have HBO5 : Sh (Blk w5 go_ 4 (Bls ol)) := ⟨(hx go_ (.inl rfl)).trans HBO.out⟩
          have HBD5 : Sh (Blk w5 gd_ 4 (Bls al)) := ⟨(hx gd_ (.inr rfl)).trans HBD.out⟩
          have d0 := (HBD5.out.cell q).trans (Bls_at al q (by rw [OI.out.l2]; exact HQ4.out))
          have df := HBD5.out.frozen q
          clear ho hx HO HBO HBD
          obtain ⟨P5, hP5⟩ : ∃ P, P = insP c PS (8 * (q : Int)) := ⟨_, rfl⟩
          rw [← hP5] at HO5 OI5
          have HO6 : Sh (Own w (fun k => k = go_ ∨ k = gd_) ga gp c 32 P5 (w5.setCell ⟨gd_, q, none⟩ (.bool true))) := ⟨HO5.out.step (fun k hk hn => Below.heap_setCell _ _ _ _ (by rintro rfl; exact hn (.inr rfl))) (HO5.out.bl.setCell (p := ⟨gd_, q, none⟩) HGE.out.2 _) (by simp [World.setCell]) (fun k hk => .inl hk)⟩
          have HBO6 : Sh (Blk (w5.setCell ⟨gd_, q, none⟩ (.bool true)) go_ 4 (Bls ol)) := ⟨HBO5.out.far (p := ⟨gd_, q, none⟩) HNE.out _⟩
          have HBD6 : Sh (Blk (w5.setCell ⟨gd_, q, none⟩ (.bool true)) gd_ 4 (Bls (al.set q true))) := ⟨by have := HBD5.out.set_ q (.bool true); rwa [Bls_set] at this⟩
          clear HO5 HBO5 HBD5 HOA1 HOA2 hP5
          have hsm := OI5.out.sm
          have hbd := OI5.out.bd HCC.out
          obtain ⟨tt_, htt⟩ : ∃ t : Int, t = (tot P5 : Nat) := ⟨_, rfl⟩
          have HLEN := Sh.mk (own_len HO6.out)
          rw [← htt] at HLEN hsm
          have wl : IntKind.i64.wrap ((all + (pr : Int)) - (m)) = tt_ := by rw [IntKind.wrap_i64]; omega
          clear hsm hbd htt
          go_wp2_with fail
          (with_reducible refine HLEN.out.mono ?_); rintro e w9 ⟨rfl, hb⟩
          have HOW9 := Sh.mk (HO6.out.below hb)
          have HBO9 := Sh.mk (HBO6.out.kp (Kp.of_below hb []) (by simp))
          have HBD9 := Sh.mk (HBD6.out.kp (Kp.of_below hb []) (by simp))
          clear hb HLEN
          go_wp2_with fail
          go_roundw
          case rel => exact ⟨i + 2, P5, ol, (al.set q true), (all + (pr : Int)), m, by omega, by go_num, rfl, rfl, OI5, HOW9, HBO9, HBD9⟩
          case measure => simp [intOf]; omega
      · have m8 : ¬ x % 8 = 0 := c0
        have m6' : ¬ Int.tmod x 8 = 0 := by omega
        by_cases c1 : x % 8 < 6
        · have m7' : Int.tmod x 8 < 6 := by omega
          rcases OI.out.take HCC.out with ⟨t1, t2⟩ | ⟨L', xn, t1, t2, t3, t4, t5, t6, t7⟩
          · have hnl : ¬ m < all := t2
            clear b1_ b2_ b3_ b4_
            go_wp2_with fail
            (with_reducible refine (own_take HO.out).mono ?_); rintro e w5 ⟨rfl, ho, hx⟩
            rw [t1] at ho ⊢
            have HO5 := Sh.mk ho
            have HBO5 : Sh (Blk w5 go_ 4 (Bls ol)) := ⟨(hx go_ (.inl rfl)).trans HBO.out⟩
            have HBD5 : Sh (Blk w5 gd_ 4 (Bls al)) := ⟨(hx gd_ (.inr rfl)).trans HBD.out⟩
            clear ho hx HO HBO HBD t1 t2
            have hsm := OI.out.sm
            have hbd := OI.out.bd HCC.out
            obtain ⟨tt_, htt⟩ : ∃ t : Int, t = (tot PS : Nat) := ⟨_, rfl⟩
            have HLEN := Sh.mk (own_len HO5.out)
            rw [← htt] at HLEN hsm
            have wl : IntKind.i64.wrap (all - (m)) = tt_ := by rw [IntKind.wrap_i64]; omega
            clear hsm hbd htt
            go_wp2_with fail
            (with_reducible refine HLEN.out.mono ?_); rintro e w9 ⟨rfl, hb⟩
            have HOW9 := Sh.mk (HO5.out.below hb)
            have HBO9 := Sh.mk (HBO5.out.kp (Kp.of_below hb []) (by simp))
            have HBD9 := Sh.mk (HBD5.out.kp (Kp.of_below hb []) (by simp))
            clear hb HLEN
            go_wp2_with fail
            go_roundw
            case rel => exact ⟨i + 2, PS, ol, al, all, m, by omega, by go_num, rfl, rfl, OI, HOW9, HBO9, HBD9⟩
            case measure => simp [intOf]; omega
          · have hnl : m < all := t2
            have T7 := Sh.mk t7
            have e1 : Int.tmod (xn : Int) wd = 0 := by rw [Int.tmod_eq_emod_of_nonneg (by omega), HWD.out]; exact t4
            have e2 : (xn : Int) % wd = 0 := by rw [HWD.out]; exact t4
            obtain ⟨y, hy⟩ : ∃ y : Nat, y = xn / 512 := ⟨_, rfl⟩
            have e3 : Int.tdiv (xn : Int) 512 = (y : Int) := by rw [Int.tdiv_eq_ediv_of_nonneg (by omega)]; omega
            have e4 : (xn : Int) / 512 = (y : Int) := by omega
            have HE5 : Sh (Value.int .i64 (wrap64 (y : Int)) = Value.int .i64 (y : Int)) := ⟨by rw [show wrap64 (y : Int) = (y : Int) by unfold wrap64; omega]⟩
            have hy4 : y < 4 := by omega
            have hyi : (y : Int) < 4 := by omega
            have hxi : ¬ (2048 : Int) ≤ (xn : Int) := by omega
            have hxi2 : (xn : Int) < 2048 := by omega
            rw [← hy] at t6
            have w12 : IntKind.i64.wrap (m + 1) = m + 1 := by rw [IntKind.wrap_i64]; omega
            have HT1 := Sh.mk t1
            have HT5 := Sh.mk t5
            have HT6 := Sh.mk t6
            clear b1_ b2_ b3_ b4_ t1 t2 t4 t5 t6 t7 hy
            go_wp2_with fail
            (with_reducible refine (own_take HO.out).mono ?_); rintro e w5 ⟨rfl, ho, hx⟩
            rw [HT1.out] at ho ⊢
            have HO5 := Sh.mk ho
            have OI5 := Sh.mk (T7.out ho.good)
            have HBO5 : Sh (Blk w5 go_ 4 (Bls ol)) := ⟨(hx go_ (.inl rfl)).trans HBO.out⟩
            have HBD5 : Sh (Blk w5 gd_ 4 (Bls al)) := ⟨(hx gd_ (.inr rfl)).trans HBD.out⟩
            have d0 := (HBO5.out.cell xn).trans (Bls_at ol xn (by rw [OI.out.l1]; exact t3))
            have d1 := (HBD5.out.cell y).trans (Bls_at al y (by rw [OI.out.l2]; exact hy4))
            rw [HT5.out] at d0
            rw [HT6.out] at d1
            have df := HBO5.out.frozen xn
            have e5 := HE5.out
            clear ho hx HO HBO HBD T7 HT1
            have HO6 : Sh (Own w (fun k => k = go_ ∨ k = gd_) ga gp c 32 L' (w5.setCell ⟨go_, xn, none⟩ (.bool true))) := ⟨HO5.out.step (fun k hk hn => Below.heap_setCell _ _ _ _ (by rintro rfl; exact hn (.inl rfl))) (HO5.out.bl.setCell (p := ⟨go_, xn, none⟩) HGE.out.1 _) (by simp [World.setCell]) (fun k hk => .inl hk)⟩
            have HBD6 : Sh (Blk (w5.setCell ⟨go_, xn, none⟩ (.bool true)) gd_ 4 (Bls al)) := ⟨HBD5.out.far (p := ⟨go_, xn, none⟩) (fun e => HNE.out e.symm) _⟩
            have HBO6 : Sh (Blk (w5.setCell ⟨go_, xn, none⟩ (.bool true)) go_ 4 (Bls (ol.set xn true))) := ⟨by have := HBO5.out.set_ xn (.bool true); rwa [Bls_set] at this⟩
            clear HO5 HBO5 HBD5
            go_upto_region 35 with fail
            clear e5 d0 d1 df
            have hsm := OI5.out.sm
            have hbd := OI5.out.bd HCC.out
            obtain ⟨tt_, htt⟩ : ∃ t : Int, t = (tot L' : Nat) := ⟨_, rfl⟩
            have HLEN := Sh.mk (own_len HO6.out)
            rw [← htt] at HLEN hsm
            have wl : IntKind.i64.wrap (all - ((m + 1))) = tt_ := by rw [IntKind.wrap_i64]; omega
            clear hsm hbd htt
            go_wp2_with fail
            (with_reducible refine HLEN.out.mono ?_); rintro e w9 ⟨rfl, hb⟩
            have HOW9 := Sh.mk (HO6.out.below hb)
            have HBO9 := Sh.mk (HBO6.out.kp (Kp.of_below hb []) (by simp))
            have HBD9 := Sh.mk (HBD6.out.kp (Kp.of_below hb []) (by simp))
            clear hb HLEN
            go_wp2_with fail
            go_roundw
            case rel => exact ⟨i + 2, L', (ol.set xn true), al, all, (m + 1), by omega, by go_num, rfl, rfl, OI5, HOW9, HBO9, HBD9⟩
            case measure => simp [intOf]; omega
        · have m7' : ¬ Int.tmod x 8 < 6 := by omega
          obtain ⟨a, haa⟩ : ∃ a : Nat, a = (k * 8).toNat := ⟨_, rfl⟩
          have ha2 : a < 2048 := by omega
          have w13 : IntKind.i64.wrap (k * 8) = (a : Int) := by rw [IntKind.wrap_i64]; omega
          have hai : (a : Int) < 2048 := by omega
          have HA2 := Sh.mk ha2
          clear haa
          rcases OI.out.put HCC.out ha2 with ⟨er, t0, t1, t2⟩ | ⟨L', g, pg, t1, t2, t3, t4⟩
          · have HT1 := Sh.mk t1
            have HT2 := Sh.mk t2
            have hb : (er == 0) = false := by rcases t0 with rfl | rfl <;> rfl
            clear b1_ b2_ b3_ b4_ t1 t2 t0
            go_wp2_with fail
            (with_reducible refine (own_put HO.out (a : Int)).mono ?_); rintro e w5 ⟨rfl, ho, hx⟩
            rw [HT1.out] at ho ⊢
            have HO5 := Sh.mk ho
            have HBO5 : Sh (Blk w5 go_ 4 (Bls ol)) := ⟨(hx go_ (.inl rfl)).trans HBO.out⟩
            have HBD5 : Sh (Blk w5 gd_ 4 (Bls al)) := ⟨(hx gd_ (.inr rfl)).trans HBD.out⟩
            have d0 := (HBO5.out.cell a).trans (Bls_at ol a (by rw [OI.out.l1]; exact HA2.out))
            rw [HT2.out] at d0
            clear ho hx HO HBO HBD HT1
            go_upto_region 35 with fail
            clear d0
            have hsm := OI.out.sm
            have hbd := OI.out.bd HCC.out
            obtain ⟨tt_, htt⟩ : ∃ t : Int, t = (tot PS : Nat) := ⟨_, rfl⟩
            have HLEN := Sh.mk (own_len HO5.out)
            rw [← htt] at HLEN hsm
            have wl : IntKind.i64.wrap (all - (m)) = tt_ := by rw [IntKind.wrap_i64]; omega
            clear hsm hbd htt
            go_wp2_with fail
            (with_reducible refine HLEN.out.mono ?_); rintro e w9 ⟨rfl, hb⟩
            have HOW9 := Sh.mk (HO5.out.below hb)
            have HBO9 := Sh.mk (HBO5.out.kp (Kp.of_below hb []) (by simp))
            have HBD9 := Sh.mk (HBD5.out.kp (Kp.of_below hb []) (by simp))
            clear hb HLEN
            go_wp2_with fail
            go_roundw
            case rel => exact ⟨i + 2, PS, ol, al, all, m, by omega, by go_num, rfl, rfl, OI, HOW9, HBO9, HBD9⟩
            case measure => simp [intOf]; omega
          · have T4 := Sh.mk t4
            have HT1 := Sh.mk t1
            have HT2 := Sh.mk t2
            have e1 : Int.tmod (a : Int) wd = 0 := by rw [Int.tmod_eq_emod_of_nonneg (by omega), HWD.out]; exact t3
            have e2 : (a : Int) % wd = 0 := by rw [HWD.out]; exact t3
            obtain ⟨y, hy⟩ : ∃ y : Nat, y = a / 512 := ⟨_, rfl⟩
            have e3 : Int.tdiv (a : Int) 512 = (y : Int) := by rw [Int.tdiv_eq_ediv_of_nonneg (by omega)]; omega
            have e4 : (a : Int) / 512 = (y : Int) := by omega
            have HE5 : Sh (Value.int .i64 (wrap64 (y : Int)) = Value.int .i64 (y : Int)) := ⟨by rw [show wrap64 (y : Int) = (y : Int) by unfold wrap64; omega]⟩
            have hy4 : y < 4 := by omega
            have hyi : (y : Int) < 4 := by omega
            rw [← hy, ← HPR.out] at T4
            have w12 : IntKind.i64.wrap (m - 1) = m - 1 := by rw [IntKind.wrap_i64]; omega
            have w14 : IntKind.i64.wrap (all - (pr : Int)) = all - (pr : Int) := by rw [IntKind.wrap_i64]; omega
            clear b1_ b2_ b3_ b4_ t1 t2 t3 t4 hy
            go_wp2_with fail
            (with_reducible refine (own_put HO.out (a : Int)).mono ?_); rintro e w5 ⟨rfl, ho, hx⟩
            rw [HT1.out] at ho ⊢
            have HO5 := Sh.mk ho
            have OI5 := Sh.mk (T4.out ho.good)
            have HBO5 : Sh (Blk w5 go_ 4 (Bls ol)) := ⟨(hx go_ (.inl rfl)).trans HBO.out⟩
            have HBD5 : Sh (Blk w5 gd_ 4 (Bls al)) := ⟨(hx gd_ (.inr rfl)).trans HBD.out⟩
            have d0 := (HBO5.out.cell a).trans (Bls_at ol a (by rw [OI.out.l1]; exact HA2.out))
            have d1 := (HBD5.out.cell y).trans (Bls_at al y (by rw [OI.out.l2]; exact hy4))
            rw [HT2.out] at d0
            have df := HBO5.out.frozen a
            have dg := HBD5.out.frozen y
            have e5 := HE5.out
            clear ho hx HO HBO HBD T4 HT1
            have HO6 : Sh (Own w (fun k => k = go_ ∨ k = gd_) ga gp c 32 L' (w5.setCell ⟨go_, a, none⟩ (.bool false))) := ⟨HO5.out.step (fun k hk hn => Below.heap_setCell _ _ _ _ (by rintro rfl; exact hn (.inl rfl))) (HO5.out.bl.setCell (p := ⟨go_, a, none⟩) HGE.out.1 _) (by simp [World.setCell]) (fun k hk => .inl hk)⟩
            have HBD6 : Sh (Blk (w5.setCell ⟨go_, a, none⟩ (.bool false)) gd_ 4 (Bls al)) := ⟨HBD5.out.far (p := ⟨go_, a, none⟩) (fun e => HNE.out e.symm) _⟩
            have HBO6 : Sh (Blk (w5.setCell ⟨go_, a, none⟩ (.bool false)) go_ 4 (Bls (ol.set a false))) := ⟨by have := HBO5.out.set_ a (.bool false); rwa [Bls_set] at this⟩
            have hne1 := HNE.out
            have hne2 : gd_ ≠ go_ := fun e => HNE.out e.symm
            have hd5 := HD5.out
            cases g with
            | true =>
              simp only [if_true] at OI5
              have HO7 : Sh (Own w (fun k => k = go_ ∨ k = gd_) ga gp c 32 L' ((w5.setCell ⟨go_, a, none⟩ (.bool false)).setCell ⟨gd_, y, none⟩ (.bool false))) := ⟨HO6.out.step (fun k hk hn => Below.heap_setCell _ _ _ _ (by rintro rfl; exact hn (.inr rfl))) (HO6.out.bl.setCell (p := ⟨gd_, y, none⟩) HGE.out.2 _) (by simp [World.setCell]) (fun k hk => .inl hk)⟩
              have HBD7 : Sh (Blk ((w5.setCell ⟨go_, a, none⟩ (.bool false)).setCell ⟨gd_, y, none⟩ (.bool false)) gd_ 4 (Bls (al.set y false))) := ⟨by have := HBD6.out.set_ y (.bool false); rwa [Bls_set] at this⟩
              have HBO7 : Sh (Blk ((w5.setCell ⟨go_, a, none⟩ (.bool false)).setCell ⟨gd_, y, none⟩ (.bool false)) go_ 4 (Bls (ol.set a false))) := ⟨HBO6.out.far (p := ⟨gd_, y, none⟩) HNE.out _⟩
              clear HO5 HBO5 HBD5 HO6 HBO6 HBD6
              go_upto_region 35 with fail
              clear e5 d0 d1 df dg hd5
              have hsm := OI5.out.sm
              have hbd := OI5.out.bd HCC.out
              obtain ⟨tt_, htt⟩ : ∃ t : Int, t = (tot L' : Nat) := ⟨_, rfl⟩
              have HLEN := Sh.mk (own_len HO7.out)
              rw [← htt] at HLEN hsm
              have wl : IntKind.i64.wrap ((all - (pr : Int)) - ((m - 1))) = tt_ := by rw [IntKind.wrap_i64]; omega
              clear hsm hbd htt
              go_wp2_with fail
              (with_reducible refine HLEN.out.mono ?_); rintro e w9 ⟨rfl, hb⟩
              have HOW9 := Sh.mk (HO7.out.below hb)
              have HBO9 := Sh.mk (HBO7.out.kp (Kp.of_below hb []) (by simp))
              have HBD9 := Sh.mk (HBD7.out.kp (Kp.of_below hb []) (by simp))
              clear hb HLEN
              go_wp2_with fail
              go_roundw
              case rel => exact ⟨i + 2, L', (ol.set a false), (al.set y false), (all - (pr : Int)), (m - 1), by omega, by go_num, rfl, rfl, OI5, HOW9, HBO9, HBD9⟩
              case measure => simp [intOf]; omega
            | false =>
              simp only [Bool.false_eq_true, if_false] at OI5
              clear HO5 HBO5 HBD5
              go_upto_region 35 with fail
              clear e5 d0 d1 df dg hd5
              have hsm := OI5.out.sm
              have hbd := OI5.out.bd HCC.out
              obtain ⟨tt_, htt⟩ : ∃ t : Int, t = (tot L' : Nat) := ⟨_, rfl⟩
              have HLEN := Sh.mk (own_len HO6.out)
              rw [← htt] at HLEN hsm
              have wl : IntKind.i64.wrap (all - ((m - 1))) = tt_ := by rw [IntKind.wrap_i64]; omega
              clear hsm hbd htt
              go_wp2_with fail
              (with_reducible refine HLEN.out.mono ?_); rintro e w9 ⟨rfl, hb⟩
              have HOW9 := Sh.mk (HO6.out.below hb)
              have HBO9 := Sh.mk (HBO6.out.kp (Kp.of_below hb []) (by simp))
              have HBD9 := Sh.mk (HBD6.out.kp (Kp.of_below hb []) (by simp))
              clear hb HLEN
              go_wp2_with fail
              go_roundw
              case rel => exact ⟨i + 2, L', (ol.set a false), al, all, (m - 1), by omega, by go_num, rfl, rfl, OI5, HOW9, HBO9, HBD9⟩
              case measure => simp [intOf]; omega
    · have HBL := Sh.mk HO.out.bl
      by_cases hi1 : i + 1 < n
      · have z1 : (i : Int) + 1 < (n : Int) := by omega
        have z2 : ¬ (i : Int) < 500 := by omega
        clear hgo HO OI HBO HBD
        go_wp2_with fail
        (with_reducible refine (HAW.out _).mono ?_); rintro e w9 ⟨rfl, hb⟩
        have HB9 := Sh.mk (below_step HBL.out hb)
        clear hb
        go_wp2
        go_ret
        exact ⟨rfl, HB9.out⟩
      · have z1 : ¬ (i : Int) + 1 < (n : Int) := by omega
        clear hgo HO OI HBO HBD
        go_wp2_with fail
        (with_reducible refine (HAW.out _).mono ?_); rintro e w9 ⟨rfl, hb⟩
        have HB9 := Sh.mk (below_step HBL.out hb)
        clear hb
        go_wp2
        go_ret
        exact ⟨rfl, HB9.out⟩
theorem poolOnce_walk (a0 : Int) (A1 : Option Addr) (c1 : Nat) (l1 : List Int) (w : World) (hw0 : (Lit.int .u8 a0).wf = true) (hr1 : Kd.C (Kd.int .u8) w A1 l1.length l1) (hc1 : l1.length ≤ c1) (hw1 : ∀ x ∈ l1, (Lit.int .u8 x).wf = true) (y1 : l1.length * 1 ≤ 140737488351232) :
    Calls Try.prog 3 #[.int .u8 a0, .slice A1 l1.length c1] w fun e w' => e = .returned (.bool true) ∧ Below w.heap.size w w' :=
  poolOnce_any a0 A1 c1 l1 w (wf8 hw0) hr1 hw1 y1
end Go.Proofs.Ytmmpdpnonnjadaa
