/- Put of a pool: a contract. No statement is proved here. -/
import Derived.Test.YtmmpdpnonnjadaaPoolPut
import Derived.BigRegion
namespace Go.Proofs.Ytmmpdpnonnjadaa
set_option linter.unusedVariables false
set_option linter.unusedSimpArgs false
open Go.RowKit Go.Proofs.YtmmpdpnonnjadaaW.PrintWords Go.Proofs.YtmmpdpnonnjadaaW.PrintLast Go.Proofs.YtmmpdpnonnjadaaW.PrintMore Pr

set_option maxRecDepth 100000 in
set_option maxHeartbeats 4000000 in
theorem put_pool {F : Nat → Prop} {ga gp : Nat} {c : Int} {N : Nat} {Ps : List Pt} {W : World} (h : PSt F ga gp c N Ps W) (a : Int) :
    Calls Try.prog 13 #[.pointer (some ⟨gp, 0, none⟩), .pointer (some ⟨ga, 0, none⟩), .int .i64 a] W fun e w' => e = .returned (.tuple #[.int .i64 (putP c Ps a).2.1, .bool (putP c Ps a).2.2.1, .int .i64 (putP c Ps a).2.2.2]) ∧ Aft F ga gp c N (putP c Ps a).1 W w' := by
  have hu63 := Try.underlying63
  have HS := Sh.mk h
  have hfind := find_pool h a
  obtain ⟨gb, M, L, v, hLP, hp⟩ := h
  rcases putP_split c a Ps with ⟨h1, h2, h3⟩ | ⟨pre, p, suf, h1, h2, h3, h4, h5⟩
  · have HT : Sh (putP c Ps a = (Ps, 0, false, 1)) := ⟨h2⟩
    rw [HT.out]
    rw [h3 0] at hfind
    have HI := Sh.mk hfind
    clear hp h1 h2 h3 HT hLP hfind
    go_enter Try.func13, Try.ntmps13
    go_wp2_with fail
    (with_reducible refine HI.out.mono ?_); rintro e w1 ⟨rfl, hb⟩
    have HB := Sh.mk hb
    clear hb
    go_wp2
    go_ret3
    exact ⟨rfl, HS.out.same HB.out⟩
  · rw [h4 0] at hfind
    obtain ⟨la, g, lb, rfl, hla, hlb⟩ := map_mid (hLP.trans h1)
    obtain ⟨g0, cap, cur, rfl, hF0, hc2, hc3, hB0, k0, k1, k2, k3⟩ := hp.mid
    have hc1 := (hp.pl.cell 1).trans (show _ = some (Value.slice (some ⟨g0, 0, none⟩) (la ++ (p, g) :: lb).length cap) from rfl)
    have hlen : (la ++ (p, g) :: lb).length ≤ 32 := hp.llen
    have hila : la.length < (la ++ (p, g) :: lb).length := by simp
    have hpl : pre.length = la.length := by rw [← hla, List.length_map]
    obtain ⟨i, hi⟩ : ∃ i, i = la.length := ⟨_, rfl⟩
    obtain ⟨n, hn⟩ : ∃ n, n = (la ++ (p, g) :: lb).length := ⟨_, rfl⟩
    obtain ⟨hBg, hFg, hfit, hch, hne⟩ := hp.gmid
    have hcc := hp.cc
    obtain ⟨k, hk, hxk⟩ := hit_get hcc h3
    have hper : perC c ≤ 16 := by rcases cls_cases hcc with h | h | h | h <;> omega
    have hpg : 0 ≤ p.page ∧ p.page ≤ 256 := ⟨hfit.1, by have := hfit.2.1; have := hp.nn; omega⟩
    have hlper : p.free.length ≤ perC c := fit_len hfit
    have hkq : (a - p.page * 64) / wdC c = (k : Int) := by rw [hxk, adr_quo hcc]
    have hbdh := hit_bd h3
    have habd : 0 ≤ a ∧ a < M.length := ⟨by omega, by have := hp.ml; have := hfit.2.1; omega⟩
    have hMs := hp.ar.small
    rw [hkq, hpl, ← hi] at hfind
    simp only [Int.natCast_zero, Int.zero_add] at hfind
    have HP := Sh.mk hp
    have hfl := (hBg.cell k).trans (bls_at c p k hk)
    rw [← hxk] at hfl
    have HI := Sh.mk hfind
    have HH3 := Sh.mk h3
    have HXK := Sh.mk hxk
    have HLA := Sh.mk hla
    have HLB := Sh.mk hlb
    have HIL := Sh.mk hi
    have HHK := Sh.mk hk
    by_cases hm : a ∈ p.free
    · have HT : Sh (putP c Ps a = (Ps, 0, false, 4)) := ⟨by rw [h5, if_pos hm]⟩
      rw [HT.out]
      rw [decide_eq_true hm] at hfl
      obtain ⟨x4, hx4⟩ : ∃ y, y = perC c := ⟨_, rfl⟩
      rw [← hx4] at k3 hk hper
      rw [← hi] at k3 hila
      rw [← hn] at hc1 hila hlen
      have hkb : (k : Int) < (x4 : Int) ∧ k ≤ 16 := by omega
      clear hp h1 h2 h3 h4 h5 HT hLP hfind hla hlb hpl hB0 hBg hF0 hFg hfit hch hne hcc hxk hlper hkq hbdh habd hMs hx4 hc3 hpg hm hi hn k0 k1 k2
      go_enter Try.func13, Try.ntmps13
      go_wp2_with fail
      (with_reducible refine HI.out.mono ?_); rintro e w1 ⟨rfl, hb⟩
      have HB := Sh.mk hb
      have e1 := (hb.cell (World.block_lt_of_cell? _ _ hc1)).trans hc1
      have f3 := (hb.cell (World.block_lt_of_cell? _ _ k3)).trans k3
      have f4 := (hb.cell (World.block_lt_of_cell? _ _ hfl)).trans hfl
      clear hb hc1 k3 hfl
      go_wp2
      go_ret3
      exact ⟨rfl, HS.out.same HB.out⟩
    · rw [decide_eq_false hm] at hfl
      have HM := Sh.mk hm
      have hh5 := h5
      rw [if_neg hm] at hh5
      have hlper2 : p.free.length + 1 ≤ perC c := fit_len (p := ⟨p.page, a :: p.free⟩) (N := N) ⟨hfit.1, hfit.2.1, List.nodup_cons.2 ⟨hm, hfit.2.2.1⟩, fun y hy => by
        rcases List.mem_cons.1 hy with rfl | hy
        · exact ⟨k, hk, hxk⟩
        · exact hfit.2.2.2 y hy⟩
      have HPUSH : Sh (∀ V : World, Below W.heap.size W V → Calls Try.prog 26 #[.pointer (some ⟨ga, 0, none⟩), .int .i64 (hd p.free), .int .i64 a] V fun e w' => e = .returned (.tuple #[.int .i64 (a + 1), .int .i64 0]) ∧ Ar w' ga gb (M.set a.toNat (hd p.free)) ∧ Kp [gb] V w') := ⟨fun V hV => by
        have h0 := push_any ga gb M (hd p.free) a V (HP.out.below hV).ar
        rw [pushS_chn hch habd.1 habd.2] at h0
        exact h0⟩
      obtain ⟨m, hm2⟩ : ∃ m : Int, m = (p.free.length : Int) := ⟨_, rfl⟩
      obtain ⟨hl, hhl⟩ : ∃ y, y = hd p.free := ⟨_, rfl⟩
      have hhb := hd_bd hch
      rw [← hhl] at hhb
      -- behind the stores
      have HPUTT : Sh (∀ w1 : World, Below W.heap.size W w1 → ∀ w2, Ar w2 ga gb (M.set a.toNat hl) → Kp [gb] w1 w2 → ∀ V, Below (((w2.setCell ⟨g0, i * 4 + 1, none⟩ (.int .i64 (a + 1))).setCell ⟨g0, i * 4 + 2, none⟩ (.int .i64 (m + 1))).setCell ⟨g, k, none⟩ (.bool true)).heap.size (((w2.setCell ⟨g0, i * 4 + 1, none⟩ (.int .i64 (a + 1))).setCell ⟨g0, i * 4 + 2, none⟩ (.int .i64 (m + 1))).setCell ⟨g, k, none⟩ (.bool true)) V →
          PR F ga gb gp c N (M.set a.toNat hl) (la ++ (⟨p.page, a :: p.free⟩, g) :: lb) (.slice (some ⟨g0, 0, none⟩) n cap) V ∧ Kq F W V) := ⟨fun w1 hw1 w2 har hkp V hV => by
        subst hi hn hhl hm2
        obtain ⟨q1, q2⟩ := PR.putted (HP.out.below hw1) HH3.out HM.out HHK.out HXK.out har hkp hV
        exact ⟨q1, (Kq.of_below (F := F) hw1).step q2 (fun g hg => .inl hg)⟩⟩
      have HKC : Sh (∀ w1 : World, Below W.heap.size W w1 → ∀ w2, Kp [gb] w1 w2 → (w2.cell? ⟨g0, i * 4 + 2, none⟩ = some (.int .i64 m) ∧ w2.cell? ⟨g0, i * 4 + 3, none⟩ = some (.slice (some ⟨g, 0, none⟩) (perC c) (perC c)) ∧ w2.cell? ⟨g, k, none⟩ = some (.bool false) ∧ (∀ j, w2.frozen? ⟨g0, j, none⟩ = false) ∧ w2.frozen? ⟨g, k, none⟩ = false) ∧ g0 ≠ g ∧ w2.cell? ⟨g0, i * 4 + 1, none⟩ = some (.int .i64 hl)) := ⟨fun w1 hw1 w2 hkp => by
        have n2 : gb ≠ g0 := HP.out.ar.ws.ne_ hB0 (by decide)
        have n4 : g ≠ g0 := hBg.ne_ hB0 (by decide)
        have n6 : gb ≠ g := HP.out.ar.ws.ne_ hBg (by decide)
        have b0 := (hB0.kp (Kp.of_below hw1 []) (by simp)).kp hkp (by simp; omega)
        have bg := (hBg.kp (Kp.of_below hw1 []) (by simp)).kp hkp (by simp; omega)
        have tr : ∀ j u, W.cell? ⟨g0, j, none⟩ = some u → w2.cell? ⟨g0, j, none⟩ = some u := fun j u hu => cell_kp (cell_kp hu (Kp.of_below hw1 []) (by simp)) hkp (by simp; omega)
        refine ⟨⟨by rw [hi, hm2]; exact tr _ _ k2, by rw [hi]; exact tr _ _ k3, ?_, fun j => b0.frozen j, bg.frozen k⟩, fun e => n4 e.symm, by rw [hi, hhl]; exact tr _ _ k1⟩
        exact cell_kp (cell_kp hfl (Kp.of_below hw1 []) (by simp)) hkp (by simp; omega)⟩
      obtain ⟨x4, hx4⟩ : ∃ y, y = perC c := ⟨_, rfl⟩
      obtain ⟨pg, hpge⟩ : ∃ y, y = p.page := ⟨_, rfl⟩
      rw [← hx4] at HKC hk hper hlper2
      rw [← hhl] at HPUSH k1
      rw [← hi] at k1 k2 k3 hila
      rw [← hx4] at k3
      rw [← hn] at hc1 hila hlen
      have hmb : 0 ≤ m ∧ m + 1 ≤ (x4 : Int) := by omega
      have w1' : IntKind.i64.wrap (m + 1) = m + 1 := by rw [IntKind.wrap_i64]; omega
      have w2' : IntKind.i64.wrap ((i : Int) + 1) = (i : Int) + 1 := by rw [IntKind.wrap_i64]; omega
      have hkb : (k : Int) < (x4 : Int) ∧ k ≤ 16 := by omega
      have HZK : Sh (∀ V M' (q : Pt), PR F ga gb gp c N M' (la ++ (q, g) :: lb) (.slice (some ⟨g0, 0, none⟩) n cap) V → V.cell? ⟨g0, i * 4, none⟩ = some (.int .i64 q.page) ∧ V.cell? ⟨g0, i * 4 + 2, none⟩ = some (.int .i64 (q.free.length : Int)) ∧ V.cell? ⟨g0, i * 4 + 3, none⟩ = some (.slice (some ⟨g, 0, none⟩) x4 x4) ∧ V.cell? ⟨gp, 1, none⟩ = some (.slice (some ⟨g0, 0, none⟩) n cap) ∧ V.frozen? ⟨gp, 1, none⟩ = false) := ⟨fun V M' q hq => by
        have hqn : n = (la ++ (q, g) :: lb).length := by rw [hn]; simp
        rw [hqn] at hq
        obtain ⟨g9, cap9, cur9, hv9, _, _, _, _, j0, j1, j2, j3⟩ := hq.mid
        simp only [Value.slice.injEq, Option.some.injEq, Addr.mk.injEq] at hv9
        obtain ⟨⟨rfl, _, _⟩, _, rfl⟩ := hv9
        rw [hi, hx4]
        exact ⟨j0, j2, j3, by rw [hqn]; exact (hq.pl.cell 1).trans rfl, hq.pl.frozen 1⟩⟩
      have HML : Sh (m + 1 = (((a :: p.free).length : Nat) : Int)) := ⟨by rw [hm2]; simp⟩
      have HDEL : Sh (∀ V M' (q : Pt), PR F ga gb gp c N M' (la ++ (q, g) :: lb) (.slice (some ⟨g0, 0, none⟩) n cap) V → Calls Try.prog 34 #[.slice (some ⟨g0, 0, none⟩) n cap, .int .i64 (i : Int), .int .i64 ((i : Int) + 1)] V fun e w' => ∃ v', e = .returned v' ∧ PSt F ga gp c N (pre ++ suf) (w'.setCell ⟨gp, 1, none⟩ v') ∧ Kq F V (w'.setCell ⟨gp, 1, none⟩ v') ∧ w'.frozen? ⟨gp, 1, none⟩ = false ∧ w'.cell? ⟨gp, 1, none⟩ = some (.slice (some ⟨g0, 0, none⟩) n cap) ∧ ∃ A9 n9 c9, v' = .slice A9 n9 c9) := ⟨fun V M' q hq => by
        have hqn : n = (la ++ (q, g) :: lb).length := by rw [hn]; simp
        have hq' := hq
        rw [hqn] at hq'
        have hd9 := delete_one_sp 0 _ _ i _ V hq'.row (by rw [hi]; simp) (spF_one c _)
        rw [hqn]
        refine hd9.mono ?_
        rintro e w' ⟨v', rfl, ho, hg, hv⟩
        rw [hi] at ho
        obtain ⟨q1, q2⟩ := PR.dropped hq' ho hg hv
        obtain ⟨g9, cap9, cur9, hv9, _, _, _, hB9, _⟩ := hq'.mid
        simp only [Value.slice.injEq, Option.some.injEq, Addr.mk.injEq] at hv9
        obtain ⟨⟨rfl, _, _⟩, _, rfl⟩ := hv9
        have n3 : gp ≠ g0 := hq'.pl.ne_ hB9 (by decide)
        have kg : Kp [g0] V w' := (Kp.refl [g0] V).grown hg (fun k hk => .inl (by simp [Value.ownBlock] at hk; simp [hk]))
        have bp := hq'.pl.kp kg (by simp; omega)
        exact ⟨v', rfl, ⟨gb, M', la ++ lb, v', by rw [List.map_append, HLA.out, HLB.out], q1⟩, q2, bp.frozen 1, (bp.cell 1).trans rfl, by
          rcases ho.2 with ⟨h9, _⟩ | ⟨_, _, _, h9, _⟩
          · exact ⟨_, _, _, h9⟩
          · exact ⟨_, _, _, h9⟩⟩⟩
      have HFINN : Sh (∀ V, PR F ga gb gp c N (M.set a.toNat hl) (la ++ (⟨p.page, a :: p.free⟩, g) :: lb) (.slice (some ⟨g0, 0, none⟩) n cap) V → PSt F ga gp c N (pre ++ ⟨p.page, a :: p.free⟩ :: suf) V) := ⟨fun V hV => ⟨gb, _, _, _, by rw [List.map_append, List.map_cons, HLA.out, HLB.out], hV⟩⟩
      have HT : Sh (putP c Ps a = if m + 1 = (x4 : Int) then (pre ++ suf, pg, true, 0) else (pre ++ ⟨p.page, a :: p.free⟩ :: suf, pg, false, 0)) := ⟨by
        rw [hh5, hpge]
        by_cases e : p.free.length + 1 = perC c
        · rw [if_pos e, if_pos (by omega)]
        · rw [if_neg e, if_neg (by omega)]⟩
      have HPG := Sh.mk hpge
      clear hp h1 h2 h3 h4 h5 hh5 hLP hfind hla hlb hpl hB0 hBg hF0 hFg hfit hch hne hcc hxk hlper hlper2 hkq habd hMs hx4 hc3 hm hi hn k0 hm2 hhl hpge hfl hbdh hpg
      go_enter Try.func13, Try.ntmps13
      go_wp2_with fail
      (with_reducible refine HI.out.mono ?_); rintro e w1 ⟨rfl, hb⟩
      have HB := Sh.mk hb
      have e1 := (hb.cell (World.block_lt_of_cell? _ _ hc1)).trans hc1
      have f1 := (hb.cell (World.block_lt_of_cell? _ _ k1)).trans k1
      obtain ⟨⟨f2, f3, f4, f5, f6⟩, f7, -⟩ := HKC.out w1 HB.out w1 (Kp.refl _ _)
      clear hb hc1 k1 k2 k3
      go_wp2_with fail
      (with_reducible refine (HPUSH.out w1 HB.out).mono ?_); rintro e w2 ⟨rfl, har, hkp⟩
      have HAR := Sh.mk har
      have HKP := Sh.mk hkp
      clear har hkp e1 f1 f2 f3 f4 f5 f6
      go_upto_region 12 with fail
      obtain ⟨⟨f2, f3, f4, f5, f6⟩, f7, f8⟩ := HKC.out w1 HB.out w2 HKP.out
      have z1 := f5 (i * 4 + 1)
      have z2 := f5 (i * 4 + 2)
      have f9 : g ≠ g0 := fun e => f7 e.symm
      clear f5
      go_region
      go_upto_region 13 with fail
      obtain ⟨wz, hwz⟩ : ∃ z, z = ((w2.setCell ⟨g0, i * 4 + 1, none⟩ (.int .i64 (a + 1))).setCell ⟨g0, i * 4 + 2, none⟩ (.int .i64 (m + 1))).setCell ⟨g, k, none⟩ (.bool true) := ⟨_, rfl⟩
      have HPZ := Sh.mk (HPUTT.out w1 HB.out w2 HAR.out HKP.out wz (by rw [hwz]; exact Below.refl _ _))
      rw [← hwz]
      clear hwz HPUTT HKC HKP HAR f2 f3 f4 f6 f7 f8 f9 z1 z2 HPUSH HI
      have q0 : wz.cell? ⟨g0, i * 4, none⟩ = some (.int .i64 pg) := by rw [HPG.out]; exact (HZK.out _ _ _ HPZ.out.1).1
      have q2 : wz.cell? ⟨g0, i * 4 + 2, none⟩ = some (.int .i64 (m + 1)) := by rw [HML.out]; exact (HZK.out _ _ _ HPZ.out.1).2.1
      have q3 : wz.cell? ⟨g0, i * 4 + 3, none⟩ = some (.slice (some ⟨g, 0, none⟩) x4 x4) := (HZK.out _ _ _ HPZ.out.1).2.2.1
      by_cases hgone : m + 1 = (x4 : Int)
      · have b1 : (m + 1 == (x4 : Int)) = true := beq_iff_eq.2 hgone
        have hT := HT.out
        rw [if_pos hgone] at hT
        have HT2 := Sh.mk hT
        clear hgone hT HT
        go_region
        have HPY : Sh (PR F ga gb gp c N (M.set a.toNat hl) (la ++ (⟨p.page, a :: p.free⟩, g) :: lb) (.slice (some ⟨g0, 0, none⟩) n cap) wz.drew.drew ∧ Kq F W wz.drew.drew) := ⟨HPZ.out.1.below ((Below.refl _ _).drew).drew, HPZ.out.2.step (Kq.of_below (F := F) ((Below.refl _ _).drew).drew) (fun g hg => .inl hg)⟩
        generalize wz.drew.drew = wy at HPY ⊢
        clear q0 q2 q3 HPZ
        obtain ⟨-, -, -, y1, y2⟩ := HZK.out _ _ _ HPY.out.1
        go_wp2_with fail
        (with_reducible refine (HDEL.out wy _ _ HPY.out.1).mono ?_); rintro e w5 ⟨v', rfl, hd1, hd2, hd3, hd4, A9, n9, c9, rfl⟩
        have HD := Sh.mk (And.intro hd1 hd2)
        clear hd1 hd2 y1 y2
        go_wp2
        go_ret3
        rw [HT2.out]
        exact ⟨rfl, F, HD.out.1, fun k hk => .inl hk, HPY.out.2.step HD.out.2 (fun g hg => .inl hg)⟩
      · have b1 : (m + 1 == (x4 : Int)) = false := beq_eq_false_iff_ne.2 hgone
        have hT := HT.out
        rw [if_neg hgone] at hT
        have HT2 := Sh.mk hT
        clear hgone hT HT
        go_region
        have HPY : Sh (PSt F ga gp c N (pre ++ ⟨p.page, a :: p.free⟩ :: suf) wz.drew.drew ∧ Kq F W wz.drew.drew) := ⟨HFINN.out _ (HPZ.out.1.below ((Below.refl _ _).drew).drew), HPZ.out.2.step (Kq.of_below (F := F) ((Below.refl _ _).drew).drew) (fun g hg => .inl hg)⟩
        generalize wz.drew.drew = wy at HPY ⊢
        clear q0 q2 q3 HPZ
        go_wp2
        go_ret3
        rw [HT2.out]
        exact ⟨rfl, F, HPY.out.1, fun k hk => .inl hk, HPY.out.2⟩
end Go.Proofs.Ytmmpdpnonnjadaa
