/- Add of a pool: a contract. No statement is proved here. -/
import Derived.Test.YtmmpdpnonnjadaaPoolAdd2
import Derived.Deep.DeepCutAuto
import Derived.Deep.CutRange
namespace Go.Proofs.Ytmmpdpnonnjadaa
set_option linter.unusedVariables false
set_option linter.unusedSimpArgs false
open Go.RowKit Go.Proofs.YtmmpdpnonnjadaaW.PrintWords Go.Proofs.YtmmpdpnonnjadaaW.PrintLast Go.Proofs.YtmmpdpnonnjadaaW.PrintMore Pr

theorem val_ {P : Program} {ops : Array Oper} {Q : Exit → Act → World → Prop} {oi : Oper} {N : Option Tmp} {a : Act} {w : World} {K : Act → World → Prop} (v : Value) (w' : World) (hw : Region.wanted oi (yielded ops a.tmps) = true) (hN : oi.dst = N)
    (hrun : (execOp a.eval oi).run P w = .ok (.value v) w') (h : K (a.put N v) w') : if Region.wanted oi (yielded ops a.tmps) = true then Oper.wp P oi a w K Q else K (a.put N undef) w := by
  rw [if_pos hw]
  subst hN
  unfold Oper.wp
  rw [hrun]
  exact h
set_option maxRecDepth 100000 in
set_option maxHeartbeats 8000000 in
theorem add_pool {F : Nat → Prop} {ga gp : Nat} {c : Int} {N : Nat} {Ps : List Pt} {W : World} (h : PSt F ga gp c N Ps W) (page : Int) (hpb : -9223372036854775808 ≤ page ∧ page ≤ 9223372036854775807) :
    Calls Try.prog 11 #[.pointer (some ⟨gp, 0, none⟩), .pointer (some ⟨ga, 0, none⟩), .int .i64 page] W fun e w' => e = .returned (.int .i64 (addP c N Ps page).2) ∧ Aft F ga gp c N (addP c N Ps page).1 W w' := by
  have hu63 := Try.underlying63
  have HS := Sh.mk h
  obtain ⟨gb, M, L, v, hLP, hp⟩ := h
  have hnn := hp.nn
  have HPAG : Sh (∀ V : World, Below W.heap.size W V → Calls Try.prog 24 #[.pointer (some ⟨ga, 0, none⟩)] V fun e w' => e = .returned (.int .i64 (N : Int)) ∧ V = w') := ⟨fun V hV => by
    have h0 := pages_any ga gb M V (hp.below hV).ar
    rw [show (M.length : Int) / 64 = N by have := hp.ml; omega] at h0
    exact h0⟩
  by_cases c1 : page < 0
  · have HT : Sh (addP c N Ps page = (Ps, 1)) := ⟨by unfold addP; rw [if_pos (.inl c1)]⟩
    rw [HT.out]
    clear hp hLP hnn hpb
    go_enter Try.func11, Try.ntmps11
    go_wp2
    go_ret
    exact ⟨rfl, HS.out.same (Below.refl _ _)⟩
  · by_cases c2 : (N : Int) - 8 < page
    · have HT : Sh (addP c N Ps page = (Ps, 1)) := ⟨by unfold addP; rw [if_pos (.inr c2)]⟩
      rw [HT.out]
      have c1' : 0 ≤ page := by omega
      clear hp hLP hpb c1
      go_enter Try.func11, Try.ntmps11
      go_wp2_with fail
      (with_reducible refine (HPAG.out W (Below.refl _ _)).mono ?_); rintro e w1 ⟨rfl, rfl⟩
      go_wp2
      go_ret
      exact ⟨rfl, HS.out.same (Below.refl _ _)⟩
    · have c1' : 0 ≤ page := by omega
      have c2' : page ≤ (N : Int) - 8 := by omega
      clear c1 c2 hpb
      have hAD : addP c N Ps page = if overP Ps page = true then (Ps, 4) else (insP c Ps page, 0) := by unfold addP; rw [if_neg (by omega)]
      have HAD := Sh.mk hAD
      obtain ⟨a1, a2, a3, a4⟩ := add_pos (c := c) (N := N) page Ps (hLP ▸ hp.gd)
      rw [← hLP] at a1 a2 a3 a4
      have HA1 := Sh.mk a1
      have HA2 := Sh.mk a2
      have HA3 := Sh.mk a3
      have HA4 := Sh.mk a4
      have hple := posP_le page (L.map (·.1))
      rw [List.length_map] at hple
      obtain ⟨t, ht⟩ : ∃ t, t = posP (L.map (·.1)) page := ⟨_, rfl⟩
      rw [← ht] at hple
      have HT0 : Sh (t = 0 + posP ((L.map (·.1)).drop 0) page) := ⟨by rw [ht]; simp⟩
      obtain ⟨A, cap, rfl, hcap⟩ := hp.slice
      have hc1 := (hp.pl.cell 1).trans (show _ = some (Value.slice A L.length cap) from rfl)
      have hc0 := (hp.pl.cell 0).trans (show _ = some (Value.int .i64 c) from rfl)
      have HP := Sh.mk hp
      have HTT := Sh.mk ht
      have HLP := Sh.mk hLP
      have hlen := hp.llen
      have w8 : IntKind.i64.wrap (page + 8) = page + 8 := by rw [IntKind.wrap_i64]; omega
      clear hp hLP hAD a1 a2 a3 a4 ht
      go_enter Try.func11, Try.ntmps11
      go_wp2_with fail
      (with_reducible refine (HPAG.out W (Below.refl _ _)).mono ?_); rintro e w1 ⟨rfl, rfl⟩
      go_wp2
      clear HPAG
      go_loopw [7] (fun iv wr => ∃ (i : Nat), i ≤ t ∧ iv = .int .i64 i ∧ Sh (t = i + posP ((L.map (·.1)).drop i) page) ∧ Sh (Below W.heap.size W wr)) (fun iv _ => L.length - (intOf iv).toNat)
      case atStart => exact ⟨0, Nat.zero_le _, rfl, HT0, ⟨Below.refl _ _⟩⟩
      case round =>
        clear HT0
        obtain ⟨i, hi, rfl, HN, HB⟩ := hrel
        have HPB := Sh.mk (HP.out.below HB.out)
        have e1 := (HPB.out.pl.cell 1).trans (show _ = some (Value.slice A L.length cap) from rfl)
        have e0 := (HPB.out.pl.cell 0).trans (show _ = some (Value.int .i64 c) from rfl)
        by_cases hlt : i < t
        · obtain ⟨g0, cap', hv, hF, hc2, hc3, hfz, k0, k1, k2, k3⟩ := HPB.out.at_ i (by omega)
          simp only [Value.slice.injEq] at hv
          obtain ⟨rfl, _, rfl⟩ := hv
          have hn := HN.out
          rw [posP_drop _ _ _ (by rw [List.length_map]; omega), List.getElem_map] at hn
          have hq : L[i].1.page + 8 ≤ page := by
            by_cases hq : L[i].1.page + 8 ≤ page
            · exact hq
            · rw [if_neg hq] at hn; omega
          rw [if_pos hq] at hn
          have HN2 : Sh (t = (i + 1) + posP ((L.map (·.1)).drop (i + 1)) page) := ⟨by omega⟩
          have hp0 := (HP.out.gd.1 L[i].1 (List.mem_map.2 ⟨L[i], List.getElem_mem _, rfl⟩)).1
          obtain ⟨x0, hx0⟩ : ∃ x, x = L[i].1.page := ⟨_, rfl⟩
          rw [← hx0] at k0 hq hp0
          have w9 : IntKind.i64.wrap (x0 + 8) = x0 + 8 := by rw [IntKind.wrap_i64]; omega
          clear hx0 hn hfz hF hc3 k1 k2 k3 HN
          have hil : i < L.length := by omega
          go_wp2
          go_roundw
          case rel => exact ⟨i + 1, by omega, by go_num, HN2, HB⟩
          case measure => simp [intOf]; omega
        · obtain rfl : i = t := by omega
          clear hlt
          have HX : Sh (∀ htl : i < L.length, ∃ (g0 : Nat) (x0 : Int), A = some ⟨g0, 0, none⟩ ∧ wr.cell? ⟨g0, i * 4, none⟩ = some (.int .i64 x0) ∧ 0 ≤ x0 ∧ x0 ≤ 256 ∧ ¬ x0 + 8 ≤ page ∧ decide (x0 < page + 8) = overP (L.map (·.1)) page) := ⟨fun htl => by
            obtain ⟨g0, cap', hv, hF, hc2, hc3, hfz, k0, k1, k2, k3⟩ := HPB.out.at_ i htl
            simp only [Value.slice.injEq] at hv
            obtain ⟨hA, _, _⟩ := hv
            have hn := HN.out
            rw [posP_drop _ _ _ (by rw [List.length_map]; omega), List.getElem_map] at hn
            have hq : ¬ L[i].1.page + 8 ≤ page := fun hq => by rw [if_pos hq] at hn; omega
            have hp0 := HP.out.gd.1 L[i].1 (List.mem_map.2 ⟨L[i], List.getElem_mem _, rfl⟩)
            have hget : (L.map (·.1))[i]? = some L[i].1 := by rw [List.getElem?_map, List.getElem?_eq_getElem htl]; rfl
            refine ⟨g0, L[i].1.page, hA, k0, hp0.1, by have := hp0.2.1; omega, hq, ?_⟩
            by_cases ho : L[i].1.page < page + 8
            · rw [decide_eq_true ho, HA1.out.2 ⟨_, by rw [← HTT.out]; exact hget, ho⟩]
            · rw [decide_eq_false ho]
              cases hov : overP (L.map (·.1)) page with
              | false => rfl
              | true =>
                obtain ⟨p, hp, hpp⟩ := HA1.out.1 hov
                rw [← HTT.out, hget] at hp
                cases hp
                exact absurd hpp ho⟩
          have HY : Sh (¬ i < L.length → overP (L.map (·.1)) page = false) := ⟨fun htl => by
            cases hov : overP (L.map (·.1)) page with
            | false => rfl
            | true =>
              obtain ⟨p, hp, hpp⟩ := HA1.out.1 hov
              rw [← HTT.out, List.getElem?_eq_none (by rw [List.length_map]; omega)] at hp
              cases hp⟩
          obtain ⟨ov, hov⟩ : ∃ b, b = overP (L.map (·.1)) page := ⟨_, rfl⟩
          rw [← hov] at HX HY
          have HOV := Sh.mk hov
          clear HN hov hi
          go_upto_region 6 with fail
          go_cut [46] from 27 to 48 (fun s46 wx => s46 = .bool false ∧ wx = wr)
          case first =>
            by_cases htl : i < L.length
            · obtain ⟨g0, x0, hA, k0, hx1, hx2, hx3, hx4⟩ := HX.out htl
              subst hA
              have w9 : IntKind.i64.wrap (x0 + 8) = x0 + 8 := by rw [IntKind.wrap_i64]; omega
              clear hx4
              go_wp2
              go_meet
              case rel => exact ⟨rfl, rfl⟩
            · have htl' : L.length ≤ i := by omega
              clear hple
              go_wp2
              go_meet
              case rel => exact ⟨rfl, rfl⟩
          case rest =>
          obtain ⟨rfl, rfl⟩ := hcut
          obtain ⟨wn, hwn⟩ : ∃ x, x = wc := ⟨_, rfl⟩
          subst hwn
          go_upto_region 8 with fail
          go_cut [68] from 49 to 68 (fun s68 wx => s68 = .bool ov ∧ wx = wn)
          case first =>
            by_cases htl : i < L.length
            · obtain ⟨g0, x0, hA, k0, hx1, hx2, hx3, hx4⟩ := HX.out htl
              subst hA
              go_wp2
              go_meet
              case rel => exact ⟨by rw [← hx4], rfl⟩
            · have htl' : L.length ≤ i := by omega
              clear hple
              have hov := HY.out htl
              subst hov
              go_wp2
              go_meet
              case rel => exact ⟨rfl, rfl⟩
          case rest =>
          obtain ⟨rfl, rfl⟩ := hcut
          obtain ⟨wm, hwm⟩ : ∃ x, x = wc := ⟨_, rfl⟩
          subst hwm
          clear HX HY
          cases ov with
          | true =>
            have HT : Sh (addP c N Ps page = (Ps, 4)) := ⟨by rw [HAD.out, ← HLP.out, if_pos HOV.out.symm]⟩
            go_wp2
            go_ret
            rw [HT.out]
            exact ⟨rfl, HS.out.same HB.out⟩
          | false =>
            have HIN := Sh.mk (HA2.out HOV.out.symm)
            have HFA := Sh.mk (HA4.out HOV.out.symm)
            have HTR : Sh (addP c N Ps page = ((L.take i).map (·.1) ++ ⟨page, allF c page⟩ :: (L.drop i).map (·.1), 0)) := ⟨by
              rw [HAD.out, ← HLP.out, if_neg (by rw [← HOV.out]; simp), HIN.out, ← HTT.out, List.map_take, List.map_drop]⟩
            obtain ⟨x4, hx4⟩ : ∃ y, y = perC c := ⟨_, rfl⟩
            have hper : 1 ≤ x4 ∧ x4 ≤ 16 := by rw [hx4]; rcases cls_cases HP.out.cc with h | h | h | h <;> omega
            have HPER : Sh (∀ V, Calls Try.prog 25 #[.int .i64 c] V fun e w' => e = .returned (.int .i64 (x4 : Int)) ∧ Below V.heap.size V w') := ⟨fun V => by rw [hx4]; exact per_c HP.out.cc V⟩
            have hmk := fun w => run_make_bool x4 (by omega) w
            have HE0 : Sh (∀ V, Below wm.heap.size wm V → V.cell? ⟨gp, 0, none⟩ = some (.int .i64 c)) := ⟨fun V hV => (hV.cell (World.block_lt_of_cell? _ _ e0)).trans e0⟩
            have HX4 := Sh.mk hx4
            clear hx4 e0 e1 hcap hlen
            go_upto_region 10 with fail
            refine start_ (n := 15) (S := fun w' => w'.cell? ⟨gp, 0, none⟩ = some (.int .i64 c)) (ds := [14]) #[false, false, false, false, false, false, false, false, false, false, false, false, false, false, false] (by kernel_rfl) rfl rfl (HE0.out _ (Below.refl _ _).drew) (fun hHeld => ?_)
            have HBw := Sh.mk (Below.refl wm.heap.size wm).drew
            generalize wm.drew = wd at HBw hHeld ⊢
            refine pure_ (i := 0) (N := some 69) (v := ?_) (a' := ?_) #[true, false, false, false, false, false, false, false, false, false, false, false, false, false, false] rfl rfl (by kernel_rfl) (fun _ _ _ h => h) (Or.inl ⟨by rfl, ?_⟩) ?_ ?_
            rotate_left
            · intro w'
              go_simp
              with_reducible rfl
            rotate_left
            · simp only [Act.put, List.setIfInBounds_toArray, List.set_cons_zero, List.set_cons_succ, Go.Proofs.YtmmpdpnonnjadaaW.PrintLast.i64_w]
              rfl
            refine pure_ (i := 1) (N := some 70) (v := ?_) (a' := ?_) #[true, true, false, false, false, false, false, false, false, false, false, false, false, false, false] rfl rfl (by kernel_rfl) (fun _ _ _ h => h) (Or.inl ⟨by rfl, ?_⟩) ?_ ?_
            rotate_left
            · intro w'
              go_simp
              with_reducible rfl
            rotate_left
            · simp only [Act.put, List.setIfInBounds_toArray, List.set_cons_zero, List.set_cons_succ, Go.Proofs.YtmmpdpnonnjadaaW.PrintLast.i64_w]
              rfl
            refine pure_ (i := 2) (N := some 71) (v := ?_) (a' := ?_) #[true, true, true, false, false, false, false, false, false, false, false, false, false, false, false] rfl rfl (by kernel_rfl) (fun _ _ _ h => h) (Or.inl ⟨by rfl, ?_⟩) ?_ ?_
            rotate_left
            · intro w'
              go_simp
              with_reducible rfl
            rotate_left
            · simp only [Act.put, List.setIfInBounds_toArray, List.set_cons_zero, List.set_cons_succ, Go.Proofs.YtmmpdpnonnjadaaW.PrintLast.i64_w]
              rfl
            refine pure_ (i := 3) (N := some 72) (v := ?_) (a' := ?_) #[true, true, true, true, false, false, false, false, false, false, false, false, false, false, false] rfl rfl (by kernel_rfl) (fun _ _ _ h => h) (Or.inl ⟨by rfl, ?_⟩) ?_ ?_
            rotate_left
            · intro w'
              go_simp
              with_reducible rfl
            rotate_left
            · simp only [Act.put, List.setIfInBounds_toArray, List.set_cons_zero, List.set_cons_succ, Go.Proofs.YtmmpdpnonnjadaaW.PrintLast.i64_w]
              rfl
            refine take_ (i := 4) (N := some 73) (v := ?_) (a' := ?_) #[true, true, true, true, true, false, false, false, false, false, false, false, false, false, false] rfl rfl (by kernel_rfl) (fun _ _ _ h => h) (Or.inl ⟨by rfl, ?_⟩) hHeld ?_ ?_
            rotate_left
            · rintro w' s0
              go_simp
              with_reducible rfl
            rotate_left
            · simp only [Act.put, List.setIfInBounds_toArray, List.set_cons_zero, List.set_cons_succ, Go.Proofs.YtmmpdpnonnjadaaW.PrintLast.i64_w]
              rfl
            refine pure_ (i := 6) (N := some 75) (v := ?_) (a' := ?_) #[true, true, true, true, true, false, true, false, false, false, false, false, false, false, false] rfl rfl (by kernel_rfl) (fun _ _ _ h => h) (Or.inl ⟨by rfl, ?_⟩) ?_ ?_
            rotate_left
            · intro w'
              go_simp
              with_reducible rfl
            rotate_left
            · simp only [Act.put, List.setIfInBounds_toArray, List.set_cons_zero, List.set_cons_succ, Go.Proofs.YtmmpdpnonnjadaaW.PrintLast.i64_w]
              rfl
            refine pure_ (i := 7) (N := some 76) (v := ?_) (a' := ?_) #[true, true, true, true, true, false, true, true, false, false, false, false, false, false, false] rfl rfl (by kernel_rfl) (fun _ _ _ h => h) (Or.inl ⟨by rfl, ?_⟩) ?_ ?_
            rotate_left
            · intro w'
              go_simp
              with_reducible rfl
            rotate_left
            · simp only [Act.put, List.setIfInBounds_toArray, List.set_cons_zero, List.set_cons_succ, Go.Proofs.YtmmpdpnonnjadaaW.PrintLast.i64_w]
              rfl
            refine pure_ (i := 8) (N := some 77) (v := ?_) (a' := ?_) #[true, true, true, true, true, false, true, true, true, false, false, false, false, false, false] rfl rfl (by kernel_rfl) (fun _ _ _ h => h) (Or.inl ⟨by rfl, ?_⟩) ?_ ?_
            rotate_left
            · intro w'
              go_simp
              with_reducible rfl
            rotate_left
            · simp only [Act.put, List.setIfInBounds_toArray, List.set_cons_zero, List.set_cons_succ, Go.Proofs.YtmmpdpnonnjadaaW.PrintLast.i64_w]
              rfl
            refine take_ (i := 9) (N := some 78) (v := ?_) (a' := ?_) #[true, true, true, true, true, false, true, true, true, true, false, false, false, false, false] rfl rfl (by kernel_rfl) (fun _ _ _ h => h) (Or.inl ⟨by rfl, ?_⟩) hHeld ?_ ?_
            rotate_left
            · rintro w' s0
              go_simp
              with_reducible rfl
            rotate_left
            · simp only [Act.put, List.setIfInBounds_toArray, List.set_cons_zero, List.set_cons_succ, Go.Proofs.YtmmpdpnonnjadaaW.PrintLast.i64_w]
              rfl
            refine join_ (σ := Nat × Nat) 1 #[true, true, true, true, true, true, true, true, true, true, true, true, true, true, false] (fun s_ => [(74, .int .i64 (x4 : Int)), (79, .int .i64 (x4 : Int)), (80, .slice (some ⟨s_.1, 0, none⟩) x4 x4), (81, .agg #[.int .i64 page, .int .i64 0, .int .i64 (x4 : Int), .slice (some ⟨s_.1, 0, none⟩) x4 x4]), (8, .pointer (some ⟨s_.2, 0, none⟩))]) (fun s_ w' => w'.cell? ⟨gp, 0, none⟩ = some (.int .i64 c) ∧ Below wm.heap.size wm w' ∧ Blk w' s_.1 4 (List.replicate x4 (Value.bool false)).toArray ∧ Blk w' s_.2 63 #[.int .i64 0, .int .i64 0, .int .i64 0, .slice none 0 0] ∧ wm.heap.size ≤ s_.1 ∧ wm.heap.size ≤ s_.2) ?_ ?_
            rotate_left
            · intro hCont
              refine two_ (i := 5) (j := 13) (Ni := some 74) (Nj := some 8) #[true, true, true, true, true, true, true, true, true, true, false, false, false, false, false] #[true, true, true, true, true, false, true, true, true, true, false, false, false, true, false] rfl rfl rfl rfl (by kernel_rfl) (by decide) (by decide) (fun K hK => ?_) (fun K hK => ?_)
              · refine goes_ Try.func25 (by kernel_rfl) rfl #[.int .i64 c] (by rfl) rfl rfl (by first | rfl | (simp only [List.map_toArray, List.map_cons, List.map_nil]; rfl)) ?_
                (with_reducible refine (HPER.out _).mono ?_); rintro e w1_ ⟨rfl, hb⟩
                refine ⟨_, rfl, ?_⟩
                have HB2 := Sh.mk (below_step HBw.out hb)
                clear hb HBw hHeld
                have HBw := HB2
                clear HB2
                refine hK.out _ _ (HE0.out _ HBw.out) (fun hHeld => ?_)
                clear hK K
                refine norm_ (a' := ?_) ?_ ?_
                rotate_left
                · show Act.put _ (some 74) _ = _
                  simp only [Act.put, List.setIfInBounds_toArray, List.set_cons_zero, List.set_cons_succ, Go.Proofs.YtmmpdpnonnjadaaW.PrintLast.i64_w]
                  rfl
                refine two_ (i := 10) (j := 13) (Ni := some 79) (Nj := some 8) #[true, true, true, true, true, true, true, true, true, true, true, false, false, false, false] #[true, true, true, true, true, true, true, true, true, true, false, false, false, true, false] rfl rfl rfl rfl (by kernel_rfl) (by decide) (by decide) (fun K hK => ?_) (fun K hK => ?_)
                · refine goes_ Try.func25 (by kernel_rfl) rfl #[.int .i64 c] (by rfl) rfl rfl (by first | rfl | (simp only [List.map_toArray, List.map_cons, List.map_nil]; rfl)) ?_
                  (with_reducible refine (HPER.out _).mono ?_); rintro e w2_ ⟨rfl, hb⟩
                  refine ⟨_, rfl, ?_⟩
                  have HB2 := Sh.mk (below_step HBw.out hb)
                  clear hb HBw hHeld
                  have HBw := HB2
                  clear HB2
                  refine hK.out _ _ (HE0.out _ HBw.out) (fun hHeld => ?_)
                  clear hK K
                  refine norm_ (a' := ?_) ?_ ?_
                  rotate_left
                  · show Act.put _ (some 79) _ = _
                    simp only [Act.put, List.setIfInBounds_toArray, List.set_cons_zero, List.set_cons_succ, Go.Proofs.YtmmpdpnonnjadaaW.PrintLast.i64_w]
                    rfl
                  refine two_ (i := 11) (j := 13) (Ni := some 80) (Nj := some 8) #[true, true, true, true, true, true, true, true, true, true, true, true, false, false, false] #[true, true, true, true, true, true, true, true, true, true, true, false, false, true, false] rfl rfl rfl rfl (by kernel_rfl) (by decide) (by decide) (fun K hK => ?_) (fun K hK => ?_)
                  · refine val_ (.slice (some ⟨w2_.heap.size, 0, none⟩) x4 x4) (w2_.alloc (.cells (List.replicate x4 (Value.bool false)).toArray 4)) (by rfl) rfl (by first | (go_simp; done) | (go_simp; rfl)) ?_
                    obtain ⟨g_, hg_⟩ : ∃ g, g = w2_.heap.size := ⟨_, rfl⟩
                    have HB2 := Sh.mk (below_alloc HBw.out (.cells (List.replicate x4 (Value.bool false)).toArray 4))
                    have HF_ : Sh (Blk (w2_.alloc (.cells (List.replicate x4 (Value.bool false)).toArray 4)) g_ 4 (List.replicate x4 (Value.bool false)).toArray) := ⟨Blk.new_ _ _ _ hg_⟩
                    have HFG : Sh (wm.heap.size ≤ g_) := ⟨by rw [hg_]; exact HBw.out.size⟩
                    rw [← hg_]
                    clear hg_ HBw hHeld
                    have HBw := HB2
                    clear HB2
                    obtain ⟨w3_, hw_⟩ : ∃ z, z = w2_.alloc (.cells (List.replicate x4 (Value.bool false)).toArray 4) := ⟨_, rfl⟩
                    rw [← hw_] at HBw HF_ ⊢
                    clear hw_
                    refine hK.out _ _ (HE0.out _ HBw.out) (fun hHeld => ?_)
                    clear hK K
                    refine norm_ (a' := ?_) ?_ ?_
                    rotate_left
                    · show Act.put _ (some 80) _ = _
                      simp only [Act.put, List.setIfInBounds_toArray, List.set_cons_zero, List.set_cons_succ, Go.Proofs.YtmmpdpnonnjadaaW.PrintLast.i64_w]
                      rfl
                    refine pure_ (i := 12) (N := some 81) (v := ?_) (a' := ?_) #[true, true, true, true, true, true, true, true, true, true, true, true, true, false, false] rfl rfl (by kernel_rfl) (fun _ _ _ h => h) (Or.inl ⟨by rfl, ?_⟩) ?_ ?_
                    rotate_left
                    · intro w'
                      go_simp
                      with_reducible rfl
                    rotate_left
                    · simp only [Act.put, List.setIfInBounds_toArray, List.set_cons_zero, List.set_cons_succ, Go.Proofs.YtmmpdpnonnjadaaW.PrintLast.i64_w]
                      rfl
                    refine one_ (i := 13) (N := some 8) #[true, true, true, true, true, true, true, true, true, true, true, true, true, true, false] rfl rfl (by kernel_rfl) (by decide) (fun K hK => ?_)
                    refine val_ (.pointer (some ⟨w3_.heap.size, 0, none⟩)) (w3_.alloc (.cells #[.int .i64 0, .int .i64 0, .int .i64 0, .slice none 0 0] 63)) (by rfl) rfl (by first | (go_simp; done) | (go_simp; rfl)) ?_
                    obtain ⟨gs_, hg_⟩ : ∃ g, g = w3_.heap.size := ⟨_, rfl⟩
                    have HB2 := Sh.mk (below_alloc HBw.out (.cells #[.int .i64 0, .int .i64 0, .int .i64 0, .slice none 0 0] 63))
                    have HX_ : Sh (Blk (w3_.alloc (.cells #[.int .i64 0, .int .i64 0, .int .i64 0, .slice none 0 0] 63)) gs_ 63 #[.int .i64 0, .int .i64 0, .int .i64 0, .slice none 0 0]) := ⟨Blk.new_ _ _ _ hg_⟩
                    have HXG : Sh (wm.heap.size ≤ gs_) := ⟨by rw [hg_]; exact HBw.out.size⟩
                    have HF2 := Sh.mk (HF_.out.alloc (.cells #[.int .i64 0, .int .i64 0, .int .i64 0, .slice none 0 0] 63))
                    rw [← hg_]
                    clear hg_ HBw hHeld HF_
                    have HBw := HB2
                    have HF_ := HF2
                    clear HF2
                    clear HB2
                    obtain ⟨w4_, hw_⟩ : ∃ z, z = w3_.alloc (.cells #[.int .i64 0, .int .i64 0, .int .i64 0, .slice none 0 0] 63) := ⟨_, rfl⟩
                    rw [← hw_] at HBw HX_ HF_ ⊢
                    clear hw_
                    refine hK.out _ _ (HE0.out _ HBw.out) (fun hHeld => ?_)
                    clear hK K
                    refine norm_ (a' := ?_) ?_ ?_
                    rotate_left
                    · show Act.put _ (some 8) _ = _
                      simp only [Act.put, List.setIfInBounds_toArray, List.set_cons_zero, List.set_cons_succ, Go.Proofs.YtmmpdpnonnjadaaW.PrintLast.i64_w]
                      rfl
                    exact norm_ (by simp only [putAll, Act.put, List.setIfInBounds_toArray, List.set_cons_zero, List.set_cons_succ]) (hCont (g_, gs_) _ ⟨hHeld, HBw.out, HF_.out, HX_.out, HFG.out, HXG.out⟩)
                  · refine val_ (.pointer (some ⟨w2_.heap.size, 0, none⟩)) (w2_.alloc (.cells #[.int .i64 0, .int .i64 0, .int .i64 0, .slice none 0 0] 63)) (by rfl) rfl (by first | (go_simp; done) | (go_simp; rfl)) ?_
                    obtain ⟨gs_, hg_⟩ : ∃ g, g = w2_.heap.size := ⟨_, rfl⟩
                    have HB2 := Sh.mk (below_alloc HBw.out (.cells #[.int .i64 0, .int .i64 0, .int .i64 0, .slice none 0 0] 63))
                    have HX_ : Sh (Blk (w2_.alloc (.cells #[.int .i64 0, .int .i64 0, .int .i64 0, .slice none 0 0] 63)) gs_ 63 #[.int .i64 0, .int .i64 0, .int .i64 0, .slice none 0 0]) := ⟨Blk.new_ _ _ _ hg_⟩
                    have HXG : Sh (wm.heap.size ≤ gs_) := ⟨by rw [hg_]; exact HBw.out.size⟩
                    rw [← hg_]
                    clear hg_ HBw hHeld
                    have HBw := HB2
                    clear HB2
                    obtain ⟨w5_, hw_⟩ : ∃ z, z = w2_.alloc (.cells #[.int .i64 0, .int .i64 0, .int .i64 0, .slice none 0 0] 63) := ⟨_, rfl⟩
                    rw [← hw_] at HBw HX_ ⊢
                    clear hw_
                    refine hK.out _ _ (HE0.out _ HBw.out) (fun hHeld => ?_)
                    clear hK K
                    refine norm_ (a' := ?_) ?_ ?_
                    rotate_left
                    · show Act.put _ (some 8) _ = _
                      simp only [Act.put, List.setIfInBounds_toArray, List.set_cons_zero, List.set_cons_succ, Go.Proofs.YtmmpdpnonnjadaaW.PrintLast.i64_w]
                      rfl
                    refine one_ (i := 11) (N := some 80) #[true, true, true, true, true, true, true, true, true, true, true, true, false, true, false] rfl rfl (by kernel_rfl) (by decide) (fun K hK => ?_)
                    refine val_ (.slice (some ⟨w5_.heap.size, 0, none⟩) x4 x4) (w5_.alloc (.cells (List.replicate x4 (Value.bool false)).toArray 4)) (by rfl) rfl (by first | (go_simp; done) | (go_simp; rfl)) ?_
                    obtain ⟨g_, hg_⟩ : ∃ g, g = w5_.heap.size := ⟨_, rfl⟩
                    have HB2 := Sh.mk (below_alloc HBw.out (.cells (List.replicate x4 (Value.bool false)).toArray 4))
                    have HF_ : Sh (Blk (w5_.alloc (.cells (List.replicate x4 (Value.bool false)).toArray 4)) g_ 4 (List.replicate x4 (Value.bool false)).toArray) := ⟨Blk.new_ _ _ _ hg_⟩
                    have HFG : Sh (wm.heap.size ≤ g_) := ⟨by rw [hg_]; exact HBw.out.size⟩
                    have HX2 := Sh.mk (HX_.out.alloc (.cells (List.replicate x4 (Value.bool false)).toArray 4))
                    rw [← hg_]
                    clear hg_ HBw hHeld HX_
                    have HBw := HB2
                    have HX_ := HX2
                    clear HX2
                    clear HB2
                    obtain ⟨w6_, hw_⟩ : ∃ z, z = w5_.alloc (.cells (List.replicate x4 (Value.bool false)).toArray 4) := ⟨_, rfl⟩
                    rw [← hw_] at HBw HF_ HX_ ⊢
                    clear hw_
                    refine hK.out _ _ (HE0.out _ HBw.out) (fun hHeld => ?_)
                    clear hK K
                    refine norm_ (a' := ?_) ?_ ?_
                    rotate_left
                    · show Act.put _ (some 80) _ = _
                      simp only [Act.put, List.setIfInBounds_toArray, List.set_cons_zero, List.set_cons_succ, Go.Proofs.YtmmpdpnonnjadaaW.PrintLast.i64_w]
                      rfl
                    refine pure_ (i := 12) (N := some 81) (v := ?_) (a' := ?_) #[true, true, true, true, true, true, true, true, true, true, true, true, true, true, false] rfl rfl (by kernel_rfl) (fun _ _ _ h => h) (Or.inl ⟨by rfl, ?_⟩) ?_ ?_
                    rotate_left
                    · intro w'
                      go_simp
                      with_reducible rfl
                    rotate_left
                    · simp only [Act.put, List.setIfInBounds_toArray, List.set_cons_zero, List.set_cons_succ, Go.Proofs.YtmmpdpnonnjadaaW.PrintLast.i64_w]
                      rfl
                    exact norm_ (by simp only [putAll, Act.put, List.setIfInBounds_toArray, List.set_cons_zero, List.set_cons_succ]) (hCont (g_, gs_) _ ⟨hHeld, HBw.out, HF_.out, HX_.out, HFG.out, HXG.out⟩)
                · refine val_ (.pointer (some ⟨w1_.heap.size, 0, none⟩)) (w1_.alloc (.cells #[.int .i64 0, .int .i64 0, .int .i64 0, .slice none 0 0] 63)) (by rfl) rfl (by first | (go_simp; done) | (go_simp; rfl)) ?_
                  obtain ⟨gs_, hg_⟩ : ∃ g, g = w1_.heap.size := ⟨_, rfl⟩
                  have HB2 := Sh.mk (below_alloc HBw.out (.cells #[.int .i64 0, .int .i64 0, .int .i64 0, .slice none 0 0] 63))
                  have HX_ : Sh (Blk (w1_.alloc (.cells #[.int .i64 0, .int .i64 0, .int .i64 0, .slice none 0 0] 63)) gs_ 63 #[.int .i64 0, .int .i64 0, .int .i64 0, .slice none 0 0]) := ⟨Blk.new_ _ _ _ hg_⟩
                  have HXG : Sh (wm.heap.size ≤ gs_) := ⟨by rw [hg_]; exact HBw.out.size⟩
                  rw [← hg_]
                  clear hg_ HBw hHeld
                  have HBw := HB2
                  clear HB2
                  obtain ⟨w7_, hw_⟩ : ∃ z, z = w1_.alloc (.cells #[.int .i64 0, .int .i64 0, .int .i64 0, .slice none 0 0] 63) := ⟨_, rfl⟩
                  rw [← hw_] at HBw HX_ ⊢
                  clear hw_
                  refine hK.out _ _ (HE0.out _ HBw.out) (fun hHeld => ?_)
                  clear hK K
                  refine norm_ (a' := ?_) ?_ ?_
                  rotate_left
                  · show Act.put _ (some 8) _ = _
                    simp only [Act.put, List.setIfInBounds_toArray, List.set_cons_zero, List.set_cons_succ, Go.Proofs.YtmmpdpnonnjadaaW.PrintLast.i64_w]
                    rfl
                  refine one_ (i := 10) (N := some 79) #[true, true, true, true, true, true, true, true, true, true, true, false, false, true, false] rfl rfl (by kernel_rfl) (by decide) (fun K hK => ?_)
                  refine goes_ Try.func25 (by kernel_rfl) rfl #[.int .i64 c] (by rfl) rfl rfl (by first | rfl | (simp only [List.map_toArray, List.map_cons, List.map_nil]; rfl)) ?_
                  (with_reducible refine (HPER.out _).mono ?_); rintro e w8_ ⟨rfl, hb⟩
                  refine ⟨_, rfl, ?_⟩
                  have HB2 := Sh.mk (below_step HBw.out hb)
                  have HX2 := Sh.mk (HX_.out.kp (Kp.of_below hb []) (by simp))
                  clear hb HBw hHeld HX_
                  have HBw := HB2
                  have HX_ := HX2
                  clear HB2 HX2
                  refine hK.out _ _ (HE0.out _ HBw.out) (fun hHeld => ?_)
                  clear hK K
                  refine norm_ (a' := ?_) ?_ ?_
                  rotate_left
                  · show Act.put _ (some 79) _ = _
                    simp only [Act.put, List.setIfInBounds_toArray, List.set_cons_zero, List.set_cons_succ, Go.Proofs.YtmmpdpnonnjadaaW.PrintLast.i64_w]
                    rfl
                  refine one_ (i := 11) (N := some 80) #[true, true, true, true, true, true, true, true, true, true, true, true, false, true, false] rfl rfl (by kernel_rfl) (by decide) (fun K hK => ?_)
                  refine val_ (.slice (some ⟨w8_.heap.size, 0, none⟩) x4 x4) (w8_.alloc (.cells (List.replicate x4 (Value.bool false)).toArray 4)) (by rfl) rfl (by first | (go_simp; done) | (go_simp; rfl)) ?_
                  obtain ⟨g_, hg_⟩ : ∃ g, g = w8_.heap.size := ⟨_, rfl⟩
                  have HB2 := Sh.mk (below_alloc HBw.out (.cells (List.replicate x4 (Value.bool false)).toArray 4))
                  have HF_ : Sh (Blk (w8_.alloc (.cells (List.replicate x4 (Value.bool false)).toArray 4)) g_ 4 (List.replicate x4 (Value.bool false)).toArray) := ⟨Blk.new_ _ _ _ hg_⟩
                  have HFG : Sh (wm.heap.size ≤ g_) := ⟨by rw [hg_]; exact HBw.out.size⟩
                  have HX2 := Sh.mk (HX_.out.alloc (.cells (List.replicate x4 (Value.bool false)).toArray 4))
                  rw [← hg_]
                  clear hg_ HBw hHeld HX_
                  have HBw := HB2
                  have HX_ := HX2
                  clear HX2
                  clear HB2
                  obtain ⟨w9_, hw_⟩ : ∃ z, z = w8_.alloc (.cells (List.replicate x4 (Value.bool false)).toArray 4) := ⟨_, rfl⟩
                  rw [← hw_] at HBw HF_ HX_ ⊢
                  clear hw_
                  refine hK.out _ _ (HE0.out _ HBw.out) (fun hHeld => ?_)
                  clear hK K
                  refine norm_ (a' := ?_) ?_ ?_
                  rotate_left
                  · show Act.put _ (some 80) _ = _
                    simp only [Act.put, List.setIfInBounds_toArray, List.set_cons_zero, List.set_cons_succ, Go.Proofs.YtmmpdpnonnjadaaW.PrintLast.i64_w]
                    rfl
                  refine pure_ (i := 12) (N := some 81) (v := ?_) (a' := ?_) #[true, true, true, true, true, true, true, true, true, true, true, true, true, true, false] rfl rfl (by kernel_rfl) (fun _ _ _ h => h) (Or.inl ⟨by rfl, ?_⟩) ?_ ?_
                  rotate_left
                  · intro w'
                    go_simp
                    with_reducible rfl
                  rotate_left
                  · simp only [Act.put, List.setIfInBounds_toArray, List.set_cons_zero, List.set_cons_succ, Go.Proofs.YtmmpdpnonnjadaaW.PrintLast.i64_w]
                    rfl
                  exact norm_ (by simp only [putAll, Act.put, List.setIfInBounds_toArray, List.set_cons_zero, List.set_cons_succ]) (hCont (g_, gs_) _ ⟨hHeld, HBw.out, HF_.out, HX_.out, HFG.out, HXG.out⟩)
              · refine val_ (.pointer (some ⟨wd.heap.size, 0, none⟩)) (wd.alloc (.cells #[.int .i64 0, .int .i64 0, .int .i64 0, .slice none 0 0] 63)) (by rfl) rfl (by first | (go_simp; done) | (go_simp; rfl)) ?_
                obtain ⟨gs_, hg_⟩ : ∃ g, g = wd.heap.size := ⟨_, rfl⟩
                have HB2 := Sh.mk (below_alloc HBw.out (.cells #[.int .i64 0, .int .i64 0, .int .i64 0, .slice none 0 0] 63))
                have HX_ : Sh (Blk (wd.alloc (.cells #[.int .i64 0, .int .i64 0, .int .i64 0, .slice none 0 0] 63)) gs_ 63 #[.int .i64 0, .int .i64 0, .int .i64 0, .slice none 0 0]) := ⟨Blk.new_ _ _ _ hg_⟩
                have HXG : Sh (wm.heap.size ≤ gs_) := ⟨by rw [hg_]; exact HBw.out.size⟩
                rw [← hg_]
                clear hg_ HBw hHeld
                have HBw := HB2
                clear HB2
                obtain ⟨w10_, hw_⟩ : ∃ z, z = wd.alloc (.cells #[.int .i64 0, .int .i64 0, .int .i64 0, .slice none 0 0] 63) := ⟨_, rfl⟩
                rw [← hw_] at HBw HX_ ⊢
                clear hw_
                refine hK.out _ _ (HE0.out _ HBw.out) (fun hHeld => ?_)
                clear hK K
                refine norm_ (a' := ?_) ?_ ?_
                rotate_left
                · show Act.put _ (some 8) _ = _
                  simp only [Act.put, List.setIfInBounds_toArray, List.set_cons_zero, List.set_cons_succ, Go.Proofs.YtmmpdpnonnjadaaW.PrintLast.i64_w]
                  rfl
                refine one_ (i := 5) (N := some 74) #[true, true, true, true, true, true, true, true, true, true, false, false, false, true, false] rfl rfl (by kernel_rfl) (by decide) (fun K hK => ?_)
                refine goes_ Try.func25 (by kernel_rfl) rfl #[.int .i64 c] (by rfl) rfl rfl (by first | rfl | (simp only [List.map_toArray, List.map_cons, List.map_nil]; rfl)) ?_
                (with_reducible refine (HPER.out _).mono ?_); rintro e w11_ ⟨rfl, hb⟩
                refine ⟨_, rfl, ?_⟩
                have HB2 := Sh.mk (below_step HBw.out hb)
                have HX2 := Sh.mk (HX_.out.kp (Kp.of_below hb []) (by simp))
                clear hb HBw hHeld HX_
                have HBw := HB2
                have HX_ := HX2
                clear HB2 HX2
                refine hK.out _ _ (HE0.out _ HBw.out) (fun hHeld => ?_)
                clear hK K
                refine norm_ (a' := ?_) ?_ ?_
                rotate_left
                · show Act.put _ (some 74) _ = _
                  simp only [Act.put, List.setIfInBounds_toArray, List.set_cons_zero, List.set_cons_succ, Go.Proofs.YtmmpdpnonnjadaaW.PrintLast.i64_w]
                  rfl
                refine one_ (i := 10) (N := some 79) #[true, true, true, true, true, true, true, true, true, true, true, false, false, true, false] rfl rfl (by kernel_rfl) (by decide) (fun K hK => ?_)
                refine goes_ Try.func25 (by kernel_rfl) rfl #[.int .i64 c] (by rfl) rfl rfl (by first | rfl | (simp only [List.map_toArray, List.map_cons, List.map_nil]; rfl)) ?_
                (with_reducible refine (HPER.out _).mono ?_); rintro e w12_ ⟨rfl, hb⟩
                refine ⟨_, rfl, ?_⟩
                have HB2 := Sh.mk (below_step HBw.out hb)
                have HX2 := Sh.mk (HX_.out.kp (Kp.of_below hb []) (by simp))
                clear hb HBw hHeld HX_
                have HBw := HB2
                have HX_ := HX2
                clear HB2 HX2
                refine hK.out _ _ (HE0.out _ HBw.out) (fun hHeld => ?_)
                clear hK K
                refine norm_ (a' := ?_) ?_ ?_
                rotate_left
                · show Act.put _ (some 79) _ = _
                  simp only [Act.put, List.setIfInBounds_toArray, List.set_cons_zero, List.set_cons_succ, Go.Proofs.YtmmpdpnonnjadaaW.PrintLast.i64_w]
                  rfl
                refine one_ (i := 11) (N := some 80) #[true, true, true, true, true, true, true, true, true, true, true, true, false, true, false] rfl rfl (by kernel_rfl) (by decide) (fun K hK => ?_)
                refine val_ (.slice (some ⟨w12_.heap.size, 0, none⟩) x4 x4) (w12_.alloc (.cells (List.replicate x4 (Value.bool false)).toArray 4)) (by rfl) rfl (by first | (go_simp; done) | (go_simp; rfl)) ?_
                obtain ⟨g_, hg_⟩ : ∃ g, g = w12_.heap.size := ⟨_, rfl⟩
                have HB2 := Sh.mk (below_alloc HBw.out (.cells (List.replicate x4 (Value.bool false)).toArray 4))
                have HF_ : Sh (Blk (w12_.alloc (.cells (List.replicate x4 (Value.bool false)).toArray 4)) g_ 4 (List.replicate x4 (Value.bool false)).toArray) := ⟨Blk.new_ _ _ _ hg_⟩
                have HFG : Sh (wm.heap.size ≤ g_) := ⟨by rw [hg_]; exact HBw.out.size⟩
                have HX2 := Sh.mk (HX_.out.alloc (.cells (List.replicate x4 (Value.bool false)).toArray 4))
                rw [← hg_]
                clear hg_ HBw hHeld HX_
                have HBw := HB2
                have HX_ := HX2
                clear HX2
                clear HB2
                obtain ⟨w13_, hw_⟩ : ∃ z, z = w12_.alloc (.cells (List.replicate x4 (Value.bool false)).toArray 4) := ⟨_, rfl⟩
                rw [← hw_] at HBw HF_ HX_ ⊢
                clear hw_
                refine hK.out _ _ (HE0.out _ HBw.out) (fun hHeld => ?_)
                clear hK K
                refine norm_ (a' := ?_) ?_ ?_
                rotate_left
                · show Act.put _ (some 80) _ = _
                  simp only [Act.put, List.setIfInBounds_toArray, List.set_cons_zero, List.set_cons_succ, Go.Proofs.YtmmpdpnonnjadaaW.PrintLast.i64_w]
                  rfl
                refine pure_ (i := 12) (N := some 81) (v := ?_) (a' := ?_) #[true, true, true, true, true, true, true, true, true, true, true, true, true, true, false] rfl rfl (by kernel_rfl) (fun _ _ _ h => h) (Or.inl ⟨by rfl, ?_⟩) ?_ ?_
                rotate_left
                · intro w'
                  go_simp
                  with_reducible rfl
                rotate_left
                · simp only [Act.put, List.setIfInBounds_toArray, List.set_cons_zero, List.set_cons_succ, Go.Proofs.YtmmpdpnonnjadaaW.PrintLast.i64_w]
                  rfl
                exact norm_ (by simp only [putAll, Act.put, List.setIfInBounds_toArray, List.set_cons_zero, List.set_cons_succ]) (hCont (g_, gs_) _ ⟨hHeld, HBw.out, HF_.out, HX_.out, HFG.out, HXG.out⟩)
            rintro ⟨g, gs⟩ wz ⟨-, hz1, hz2, hz3, hz4, hz5⟩
            clear hHeld HBw
            dsimp only at hz2 hz3 hz4 hz5
            refine norm_ (a' := ?_) ?_ ?_
            rotate_left
            · simp only [putAll, Act.put, List.setIfInBounds_toArray, List.set_cons_zero, List.set_cons_succ]
              rfl
            have HZB := Sh.mk hz1
            have HZF := Sh.mk hz2
            have HZX := Sh.mk hz3
            have HZG := Sh.mk hz4
            have HZS := Sh.mk hz5
            obtain ⟨y0, y1, y2, y3⟩ := And.intro (hz3.cell 0) (And.intro (hz3.cell 1) (And.intro (hz3.cell 2) (hz3.cell 3)))
            obtain ⟨u0, u1, u2, u3⟩ := And.intro (hz3.frozen 0) (And.intro (hz3.frozen 1) (And.intro (hz3.frozen 2) (hz3.frozen 3)))
            clear hz1 hz2 hz3 hz4 hz5
            refine last_ (i := 14) (N := none) #[true, true, true, true, true, true, true, true, true, true, true, true, true, true, true] rfl rfl (by kernel_rfl) (by decide) (fun K hK => ?_)
            refine skip_ (w1 := ?_) (by rfl) rfl ?_ ?_
            rotate_left
            · go_simp
              rfl
            refine hK.out _ _ ?_
            clear hK K
            refine done_ (by kernel_rfl) ?_
            go_upto_region 11 with fail
            obtain ⟨wa, hwa⟩ : ∃ z, z = (((wz.setCell ⟨gs, 0, none⟩ (.int .i64 page)).setCell ⟨gs, 1, none⟩ (.int .i64 0)).setCell ⟨gs, 2, none⟩ (.int .i64 (x4 : Int))).setCell ⟨gs, 3, none⟩ (.slice (some ⟨g, 0, none⟩) x4 x4) := ⟨_, rfl⟩
            rw [← hwa]
            have hg9 : g ≠ gs := HZF.out.ne_ HZX.out (by decide)
            have HAX : Sh (Blk wa gs 63 #[.int .i64 page, .int .i64 0, .int .i64 (x4 : Int), .slice (some ⟨g, 0, none⟩) x4 x4]) := ⟨by rw [hwa]; exact (((HZX.out.set_ 0 (.int .i64 page)).set_ 1 (.int .i64 0)).set_ 2 (.int .i64 (x4 : Int))).set_ 3 (.slice (some ⟨g, 0, none⟩) x4 x4)⟩
            have HAF : Sh (Blk wa g 4 (bls c ⟨page, (allF c page).drop x4⟩)) := ⟨by
              rw [List.drop_of_length_le (show (allF c page).length ≤ x4 by rw [HX4.out]; simp [allF]), bls_none, ← HX4.out, hwa]
              exact (((HZF.out.far (p := ⟨gs, 0, none⟩) hg9 (.int .i64 page)).far (p := ⟨gs, 1, none⟩) hg9 (.int .i64 0)).far (p := ⟨gs, 2, none⟩) hg9 (.int .i64 (x4 : Int))).far (p := ⟨gs, 3, none⟩) hg9 (.slice (some ⟨g, 0, none⟩) x4 x4)⟩
            have HAK : Sh (Kp [gb] wm wa) := ⟨by
              rw [hwa]
              exact ((((Kp.of_below HZB.out [gb]).set_ (p := ⟨gs, 0, none⟩) (.inr HZS.out) (.int .i64 page)).set_ (p := ⟨gs, 1, none⟩) (.inr HZS.out) (.int .i64 0)).set_ (p := ⟨gs, 2, none⟩) (.inr HZS.out) (.int .i64 (x4 : Int))).set_ (p := ⟨gs, 3, none⟩) (.inr HZS.out) (.slice (some ⟨g, 0, none⟩) x4 x4)⟩
            have HAR : Sh (Ar wa ga gb M) := ⟨by
              have k0 : Kp [] wm wa := by
                rw [hwa]
                exact ((((Kp.of_below HZB.out []).set_ (p := ⟨gs, 0, none⟩) (.inr HZS.out) (.int .i64 page)).set_ (p := ⟨gs, 1, none⟩) (.inr HZS.out) (.int .i64 0)).set_ (p := ⟨gs, 2, none⟩) (.inr HZS.out) (.int .i64 (x4 : Int))).set_ (p := ⟨gs, 3, none⟩) (.inr HZS.out) (.slice (some ⟨g, 0, none⟩) x4 x4)
              exact HPB.out.ar.kp k0 (by simp) (by simp)⟩
            have HNE : Sh (g ≠ gs ∧ ga ≠ gs ∧ gb ≠ gs ∧ gp ≠ gs ∧ ga ≠ g ∧ gb ≠ g ∧ gp ≠ g ∧ gp ≠ gb) := ⟨by
              have := HPB.out.fb _ HPB.out.fa.1
              have := HPB.out.fb _ HPB.out.fa.2.1
              have := HPB.out.fb _ HPB.out.fa.2.2
              have := HZG.out
              have := HZS.out
              have := HPB.out.pl.ne_ HPB.out.ar.ws (by decide)
              refine ⟨hg9, ?_, ?_, ?_, ?_, ?_, ?_, this⟩ <;> omega⟩
            have HFIT : Sh (FitP c N ⟨page, allF c page⟩) := ⟨all_fit HP.out.cc c1' (by omega)⟩
            have HGD : Sh (Good c N ((L.take i ++ ((⟨page, allF c page⟩ : Pt), g) :: L.drop i).map (·.1))) := ⟨by
              rw [List.map_append, List.map_cons]
              refine Good.put_mid ?_ HFIT.out (fun q hq => ?_) (fun q hq => ?_)
              · rw [← List.map_append, List.take_append_drop]; exact HP.out.gd
              · exact HA3.out q (by rw [← HTT.out, ← List.map_take]; exact hq)
              · exact HFA.out q (by rw [← HTT.out, ← List.map_drop]; exact hq)⟩
            have HAPT : Sh (∀ q ∈ L, ∀ k, k < x4 → adr c page k ∉ q.1.free) := ⟨fun q hq k hk hm => by
              have hq1 : q.1 ∈ L.map (·.1) := List.mem_map.2 ⟨q, hq, rfl⟩
              have hm2 : adr c page k ∈ (⟨page, allF c page⟩ : Pt).free := List.mem_map.2 ⟨k, List.mem_range.2 (by rw [← HX4.out]; exact hk), rfl⟩
              have e2 : L.map (·.1) = (L.map (·.1)).take (posP (L.map (·.1)) page) ++ (L.map (·.1)).drop (posP (L.map (·.1)) page) := (List.take_append_drop _ _).symm
              rw [e2] at hq1
              rcases List.mem_append.1 hq1 with h1 | h1
              · exact apart_free HP.out.cc HFIT.out (HP.out.gd.1 q.1 (List.mem_map.2 ⟨q, hq, rfl⟩)) (.inr (HA3.out _ h1)) hm2 hm
              · exact apart_free HP.out.cc HFIT.out (HP.out.gd.1 q.1 (List.mem_map.2 ⟨q, hq, rfl⟩)) (.inl (HFA.out _ h1)) hm2 hm⟩
            have HCN : Sh (Chn M ((allF c page).drop x4)) := ⟨by rw [List.drop_of_length_le (show (allF c page).length ≤ x4 by rw [HX4.out]; simp [allF])]; trivial⟩
            have HHD : Sh (hd ((allF c page).drop x4) = 0) := ⟨by rw [List.drop_of_length_le (show (allF c page).length ≤ x4 by rw [HX4.out]; simp [allF])]; rfl⟩
            have y9 := (HAX.out.cell 2).trans (show _ = some (Value.int .i64 (x4 : Int)) from rfl)
            have w10 : IntKind.i64.wrap ((x4 : Int) - 1) = (x4 : Int) - 1 := by rw [IntKind.wrap_i64]; omega
            rw [← HHD.out] at HAX
            clear hwa hg9 y0 y1 y2 y3 u0 u1 u2 u3 HZB HZF HZX HHD HA1 HA2 HIN HPER HE0
            go_wp2
            clear y9 w10 hmk
            go_loopw [9] (fun kv wr => ∃ (j : Nat) (M' : List Int), j ≤ x4 ∧ kv = .int .i64 ((j : Int) - 1) ∧ Sh (Ar wr ga gb M') ∧ Sh (M'.length = N * 64) ∧ Sh (Blk wr gs 63 #[.int .i64 page, .int .i64 (hd ((allF c page).drop j)), .int .i64 (x4 : Int), .slice (some ⟨g, 0, none⟩) x4 x4]) ∧ Sh (Blk wr g 4 (bls c ⟨page, (allF c page).drop j⟩)) ∧ Sh (Kp [gb] wm wr) ∧ Sh (Chn M' ((allF c page).drop j)) ∧ Sh (∀ q ∈ L, Chn M' q.1.free)) (fun kv _ => (intOf kv + 1).toNat)
            case atStart => exact ⟨x4, M, Nat.le_refl _, rfl, HAR, ⟨HP.out.ml⟩, HAX, HAF, HAK, HCN, ⟨HP.out.ch⟩⟩
            case round =>
              clear HAR HAX HAF HAK HCN
              obtain ⟨j0, M', hj, rfl, HR1, HR2, HR3, HR4, HR5, HR6, HR7⟩ := hrel
              cases j0 with
              | succ j =>
                have hkv : ((j + 1 : Nat) : Int) - 1 = (j : Int) := by omega
                rw [hkv]
                clear hkv
                have hjp : j < perC c := by rw [← HX4.out]; omega
                have HDR := Sh.mk (allF_drop c page j hjp)
                have HNI := Sh.mk (allF_not HP.out.cc page j)
                obtain ⟨hl, hhl⟩ : ∃ y, y = hd ((allF c page).drop (j + 1)) := ⟨_, rfl⟩
                rw [← hhl] at HR3
                have HHL := Sh.mk hhl
                obtain ⟨x, hx⟩ : ∃ y, y = adr c page j := ⟨_, rfl⟩
                have HXE := Sh.mk hx
                have hxin := adr_in HP.out.cc (page := page) hjp
                have hxb : 0 ≤ x ∧ x < M'.length := ⟨by rw [hx]; omega, by
                  have := HR2.out
                  have h6 : 32 ≤ wdC c := by rcases cls_cases HP.out.cc with h | h | h | h <;> omega
                  rw [hx]; omega⟩
                have HXB := Sh.mk hxb
                have t3 := (HR3.out.cell 3).trans (show _ = some (Value.slice (some ⟨g, 0, none⟩) x4 x4) from rfl)
                have t4 := (HR4.out.cell j).trans (bls_at c _ j hjp)
                have t5 := HR4.out.frozen j
                have hjx : (j : Int) < (x4 : Int) ∧ j ≤ 16 := by omega
                clear hhl hx hxin hxb hjp
                go_upto_region 15 with fail
                obtain ⟨wv, hwv⟩ : ∃ z, z = wr.setCell ⟨g, j, none⟩ (.bool true) := ⟨_, rfl⟩
                rw [← hwv]
                have HV3 : Sh (Blk wv gs 63 #[.int .i64 page, .int .i64 hl, .int .i64 (x4 : Int), .slice (some ⟨g, 0, none⟩) x4 x4]) := ⟨by rw [hwv]; exact HR3.out.far (p := ⟨g, j, none⟩) (fun e => HNE.out.1 e.symm) _⟩
                have HV4 : Sh (Blk wv g 4 (bls c ⟨page, (allF c page).drop j⟩)) := ⟨by
                  have b1 := HR4.out.set_ j (.bool true)
                  rw [bls_set HP.out.cc _ ((allF c page).drop j) j (by rw [← HX4.out]; omega) true (by rw [HDR.out]; simp) (fun k hk hkj => by
                    rw [HDR.out, List.mem_cons]
                    constructor
                    · rintro (h | h)
                      · exact absurd (adr_inj HP.out.cc h) hkj
                      · exact h
                    · exact fun h => .inr h)] at b1
                  rw [hwv]; exact b1⟩
                have HV1 : Sh (Ar wv ga gb M') := ⟨by rw [hwv]; exact HR1.out.kp ((Kp.refl [g] wr).set_ (p := ⟨g, j, none⟩) (by simp) _) (by simp; exact HNE.out.2.2.2.2.1) (by simp; exact HNE.out.2.2.2.2.2.1)⟩
                have HV5 : Sh (Kp [gb] wm wv) := ⟨by rw [hwv]; exact HR5.out.set_ (p := ⟨g, j, none⟩) (.inr HZG.out) _⟩
                have HS1 : Sh (∀ V, Below wv.heap.size wv V → V.cell? ⟨gs, 1, none⟩ = some (.int .i64 hl)) := ⟨fun V hV => ((HV3.out.kp (Kp.of_below hV []) (by simp)).cell 1).trans rfl⟩
                have HS7 : Sh (∀ V w', Below wv.heap.size wv V → Kp [gb] V w' → w'.cell? ⟨gs, 1, none⟩ = some (.int .i64 hl) ∧ w'.frozen? ⟨gs, 1, none⟩ = false) := ⟨fun V w' hV hk => by
                  have b := (HV3.out.kp (Kp.of_below hV []) (by simp)).kp hk (by simp; exact fun e => HNE.out.2.2.1 e.symm)
                  exact ⟨(b.cell 1).trans rfl, b.frozen 1⟩⟩
                have HADR : Sh (∀ V, Below wv.heap.size wv V → Calls Try.prog 27 #[.pointer (some ⟨gp, 0, none⟩), .int .i64 page, .int .i64 (j : Int)] V fun e w' => e = .returned (.int .i64 x) ∧ Below V.heap.size V w') := ⟨fun V hV => by
                  have b := (HPB.out.pl.kp HV5.out (by simp; exact HNE.out.2.2.2.2.2.2.2)).kp (Kp.of_below hV []) (by simp)
                  have h0 := address_any gp c _ page j V HP.out.cc b (by omega) (by omega)
                  rw [HXE.out]
                  exact h0⟩
                have HPSH : Sh (∀ V, Below wv.heap.size wv V → Calls Try.prog 26 #[.pointer (some ⟨ga, 0, none⟩), .int .i64 hl, .int .i64 x] V fun e w' => e = .returned (.tuple #[.int .i64 (x + 1), .int .i64 0]) ∧ Ar w' ga gb (M'.set x.toNat hl) ∧ Kp [gb] V w') := ⟨fun V hV => by
                  have h0 := push_any ga gb M' hl x V (HV1.out.kp (Kp.of_below hV []) (by simp) (by simp))
                  rw [HHL.out, pushS_chn HR6.out HXB.out.1 HXB.out.2] at h0
                  rw [HHL.out]
                  exact h0⟩
                clear hwv HR1 HR3 HR4 HR5 HV1 t3 t4 t5
                refine start_ (n := 13) (S := fun w' => w'.cell? ⟨gs, 1, none⟩ = some (.int .i64 hl)) (ds := [7, 8, 9, 10, 12]) #[false, false, false, false, false, false, false, false, false, false, false, false, false] (by kernel_rfl) rfl rfl (HS1.out _ (Below.refl _ _).drew) (fun hHeld => ?_)
                have HBw := Sh.mk (Below.refl wv.heap.size wv).drew
                generalize wv.drew = wd at HBw hHeld ⊢
                refine pure_ (i := 0) (N := some 94) (v := ?_) (a' := ?_) #[true, false, false, false, false, false, false, false, false, false, false, false, false] rfl rfl (by kernel_rfl) (fun _ _ _ h => h) (Or.inl ⟨by rfl, ?_⟩) ?_ ?_
                rotate_left
                · intro w'
                  go_simp
                  with_reducible rfl
                rotate_left
                · simp only [Act.put, List.setIfInBounds_toArray, List.set_cons_zero, List.set_cons_succ, Go.Proofs.YtmmpdpnonnjadaaW.PrintLast.i64_w]
                  rfl
                refine pure_ (i := 1) (N := some 95) (v := ?_) (a' := ?_) #[true, true, false, false, false, false, false, false, false, false, false, false, false] rfl rfl (by kernel_rfl) (fun _ _ _ h => h) (Or.inl ⟨by rfl, ?_⟩) ?_ ?_
                rotate_left
                · intro w'
                  go_simp
                  with_reducible rfl
                rotate_left
                · simp only [Act.put, List.setIfInBounds_toArray, List.set_cons_zero, List.set_cons_succ, Go.Proofs.YtmmpdpnonnjadaaW.PrintLast.i64_w]
                  rfl
                refine take_ (i := 2) (N := some 96) (v := ?_) (a' := ?_) #[true, true, true, false, false, false, false, false, false, false, false, false, false] rfl rfl (by kernel_rfl) (fun _ _ _ h => h) (Or.inl ⟨by rfl, ?_⟩) hHeld ?_ ?_
                rotate_left
                · rintro w' s0
                  go_simp
                  with_reducible rfl
                rotate_left
                · simp only [Act.put, List.setIfInBounds_toArray, List.set_cons_zero, List.set_cons_succ, Go.Proofs.YtmmpdpnonnjadaaW.PrintLast.i64_w]
                  rfl
                refine pure_ (i := 3) (N := some 97) (v := ?_) (a' := ?_) #[true, true, true, true, false, false, false, false, false, false, false, false, false] rfl rfl (by kernel_rfl) (fun _ _ _ h => h) (Or.inl ⟨by rfl, ?_⟩) ?_ ?_
                rotate_left
                · intro w'
                  go_simp
                  with_reducible rfl
                rotate_left
                · simp only [Act.put, List.setIfInBounds_toArray, List.set_cons_zero, List.set_cons_succ, Go.Proofs.YtmmpdpnonnjadaaW.PrintLast.i64_w]
                  rfl
                refine pure_ (i := 4) (N := some 98) (v := ?_) (a' := ?_) #[true, true, true, true, true, false, false, false, false, false, false, false, false] rfl rfl (by kernel_rfl) (fun _ _ _ h => h) (Or.inl ⟨by rfl, ?_⟩) ?_ ?_
                rotate_left
                · intro w'
                  go_simp
                  with_reducible rfl
                rotate_left
                · simp only [Act.put, List.setIfInBounds_toArray, List.set_cons_zero, List.set_cons_succ, Go.Proofs.YtmmpdpnonnjadaaW.PrintLast.i64_w]
                  rfl
                refine pure_ (i := 5) (N := some 99) (v := ?_) (a' := ?_) #[true, true, true, true, true, true, false, false, false, false, false, false, false] rfl rfl (by kernel_rfl) (fun _ _ _ h => h) (Or.inl ⟨by rfl, ?_⟩) ?_ ?_
                rotate_left
                · intro w'
                  go_simp
                  with_reducible rfl
                rotate_left
                · simp only [Act.put, List.setIfInBounds_toArray, List.set_cons_zero, List.set_cons_succ, Go.Proofs.YtmmpdpnonnjadaaW.PrintLast.i64_w]
                  rfl
                refine one_ (i := 6) (N := some 100) #[true, true, true, true, true, true, true, false, false, false, false, false, false] rfl rfl (by kernel_rfl) (by decide) (fun K hK => ?_)
                refine goes_ Try.func27 (by kernel_rfl) rfl #[.pointer (some ⟨gp, 0, none⟩), .int .i64 page, .int .i64 (j : Int)] (by rfl) rfl rfl (by first | rfl | (simp only [List.map_toArray, List.map_cons, List.map_nil]; rfl)) ?_
                (with_reducible refine (HADR.out _ HBw.out).mono ?_); rintro e w6 ⟨rfl, hb⟩
                refine ⟨_, rfl, ?_⟩
                have HB6 := Sh.mk (below_step HBw.out hb)
                clear hb HBw hHeld
                refine hK.out _ _ (HS1.out _ HB6.out) (fun hHeld => ?_)
                clear hK K
                refine norm_ (a' := ?_) ?_ ?_
                rotate_left
                · show Act.put _ (some 100) _ = _
                  simp only [Act.put, List.setIfInBounds_toArray, List.set_cons_zero, List.set_cons_succ, Go.Proofs.YtmmpdpnonnjadaaW.PrintLast.i64_w]
                  rfl
                refine last_ (i := 7) (N := some 101) #[true, true, true, true, true, true, true, true, false, false, false, false, false] rfl rfl (by kernel_rfl) (by decide) (fun K hK => ?_)
                refine goes_ Try.func26 (by kernel_rfl) rfl #[.pointer (some ⟨ga, 0, none⟩), .int .i64 hl, .int .i64 x] (by rfl) rfl rfl (by first | rfl | (simp only [List.map_toArray, List.map_cons, List.map_nil]; rfl)) ?_
                (with_reducible refine (HPSH.out _ HB6.out).mono ?_); rintro e w7 ⟨rfl, hp1, hp2⟩
                refine ⟨_, rfl, ?_⟩
                have HP1 := Sh.mk hp1
                have HP2 := Sh.mk hp2
                have s1 := HS7.out _ _ HB6.out HP2.out
                clear hp1 hp2 hHeld
                refine hK.out _ _ ?_
                clear hK K
                refine norm_ (a' := ?_) ?_ ?_
                rotate_left
                · show Act.put _ (some 101) _ = _
                  simp only [Act.put, List.setIfInBounds_toArray, List.set_cons_zero, List.set_cons_succ, Go.Proofs.YtmmpdpnonnjadaaW.PrintLast.i64_w]
                  rfl
                refine pure_ (i := 8) (N := some 93) (v := ?_) (a' := ?_) #[true, true, true, true, true, true, true, true, true, false, false, false, false] rfl rfl (by kernel_rfl) (fun _ _ _ h => h) (Or.inl ⟨by rfl, ?_⟩) ?_ ?_
                rotate_left
                · intro w'
                  go_simp
                  with_reducible rfl
                rotate_left
                · simp only [Act.put, List.setIfInBounds_toArray, List.set_cons_zero, List.set_cons_succ, Go.Proofs.YtmmpdpnonnjadaaW.PrintLast.i64_w]
                  rfl
                refine pure_ (i := 9) (N := some 102) (v := ?_) (a' := ?_) #[true, true, true, true, true, true, true, true, true, true, false, false, false] rfl rfl (by kernel_rfl) (fun _ _ _ h => h) (Or.inl ⟨by rfl, ?_⟩) ?_ ?_
                rotate_left
                · intro w'
                  go_simp
                  with_reducible rfl
                rotate_left
                · simp only [Act.put, List.setIfInBounds_toArray, List.set_cons_zero, List.set_cons_succ, Go.Proofs.YtmmpdpnonnjadaaW.PrintLast.i64_w]
                  rfl
                refine pure_ (i := 10) (N := some 103) (v := ?_) (a' := ?_) #[true, true, true, true, true, true, true, true, true, true, true, false, false] rfl rfl (by kernel_rfl) (fun _ _ _ h => h) (Or.inl ⟨by rfl, ?_⟩) ?_ ?_
                rotate_left
                · intro w'
                  go_simp
                  with_reducible rfl
                rotate_left
                · simp only [Act.put, List.setIfInBounds_toArray, List.set_cons_zero, List.set_cons_succ, Go.Proofs.YtmmpdpnonnjadaaW.PrintLast.i64_w]
                  rfl
                refine pure_ (i := 11) (N := some 104) (v := ?_) (a' := ?_) #[true, true, true, true, true, true, true, true, true, true, true, true, false] rfl rfl (by kernel_rfl) (fun _ _ _ h => h) (Or.inl ⟨by rfl, ?_⟩) ?_ ?_
                rotate_left
                · intro w'
                  go_simp
                  with_reducible rfl
                rotate_left
                · simp only [Act.put, List.setIfInBounds_toArray, List.set_cons_zero, List.set_cons_succ, Go.Proofs.YtmmpdpnonnjadaaW.PrintLast.i64_w]
                  rfl
                obtain ⟨s1, s2⟩ := s1
                refine last_ (i := 12) (N := none) #[true, true, true, true, true, true, true, true, true, true, true, true, true] rfl rfl (by kernel_rfl) (by decide) (fun K hK => ?_)
                refine skip_ (w1 := ?_) (by rfl) rfl ?_ ?_
                rotate_left
                · go_simp
                  rfl
                refine hK.out _ _ ?_
                clear hK K
                refine done_ (by kernel_rfl) ?_
                have HN1 : Sh (Ar (w7.setCell ⟨gs, 1, none⟩ (.int .i64 (x + 1))) ga gb (M'.set x.toNat hl)) := ⟨HP1.out.kp ((Kp.refl [gs] w7).set_ (p := ⟨gs, 1, none⟩) (by simp) _) (by simp; exact HNE.out.2.1) (by simp; exact HNE.out.2.2.1)⟩
                have HN3 : Sh (Blk (w7.setCell ⟨gs, 1, none⟩ (.int .i64 (x + 1))) gs 63 #[.int .i64 page, .int .i64 (hd ((allF c page).drop j)), .int .i64 (x4 : Int), .slice (some ⟨g, 0, none⟩) x4 x4]) := ⟨by
                  have b := ((HV3.out.kp (Kp.of_below HB6.out []) (by simp)).kp HP2.out (by simp; exact fun e => HNE.out.2.2.1 e.symm)).set_ 1 (.int .i64 (x + 1))
                  rw [HDR.out, ← HXE.out]
                  exact b⟩
                have HN4 : Sh (Blk (w7.setCell ⟨gs, 1, none⟩ (.int .i64 (x + 1))) g 4 (bls c ⟨page, (allF c page).drop j⟩)) := ⟨((HV4.out.kp (Kp.of_below HB6.out []) (by simp)).kp HP2.out (by simp; exact fun e => HNE.out.2.2.2.2.2.1 e.symm)).far (p := ⟨gs, 1, none⟩) HNE.out.1 _⟩
                have HN5 : Sh (Kp [gb] wm (w7.setCell ⟨gs, 1, none⟩ (.int .i64 (x + 1)))) := ⟨((HV5.out.trans (Kp.of_below HB6.out [gb])).trans HP2.out).set_ (p := ⟨gs, 1, none⟩) (.inr HZS.out) _⟩
                have HN6 : Sh (Chn (M'.set x.toNat hl) ((allF c page).drop j)) := ⟨by
                  rw [HDR.out, HHL.out, ← HXE.out]
                  exact Chn_push HR6.out HXB.out.1 HXB.out.2 (by rw [HXE.out]; exact HNI.out)⟩
                have HN7 : Sh (∀ q ∈ L, Chn (M'.set x.toNat hl) q.1.free) := ⟨fun q hq => Chn_set (HR7.out q hq) HXB.out.1 (by rw [HXE.out]; exact HAPT.out q hq j (by omega)) _⟩
                have w11 : IntKind.i64.wrap ((j : Int) - 1) = (j : Int) - 1 := by rw [IntKind.wrap_i64]; omega
                clear s1 s2 HP1 HP2 HB6 HV3 HV4 HV5 HS1 HS7 HADR HPSH
                go_wp2
                go_roundw
                case rel => exact ⟨j, M'.set x.toNat hl, by omega, rfl, HN1, ⟨by rw [List.length_set]; exact HR2.out⟩, HN3, HN4, HN5, HN6, HN7⟩
                case measure => simp [intOf]
                -- END15
              | zero =>
                rw [show ((0 : Nat) : Int) - 1 = -1 by rfl]
                rw [List.drop_zero] at HR3 HR4 HR6
                obtain ⟨h0, hh0⟩ : ∃ y, y = hd (allF c page) := ⟨_, rfl⟩
                rw [← hh0] at HR3
                go_upto_region 16 with fail
                obtain ⟨we, hwe⟩ : ∃ z, z = wr := ⟨_, rfl⟩
                subst hwe
                have HSE : Sh (∀ V, Below we.heap.size we V → V.cell? ⟨gp, 1, none⟩ = some (.slice A L.length cap) ∧ V.cell? ⟨gs, 0, none⟩ = some (.int .i64 page) ∧ V.cell? ⟨gs, 1, none⟩ = some (.int .i64 h0) ∧ V.cell? ⟨gs, 2, none⟩ = some (.int .i64 (x4 : Int)) ∧ V.cell? ⟨gs, 3, none⟩ = some (.slice (some ⟨g, 0, none⟩) x4 x4)) := ⟨fun V hV => by
                  have b := (HPB.out.pl.kp HR5.out (by simp; exact HNE.out.2.2.2.2.2.2.2)).kp (Kp.of_below hV []) (by simp)
                  have d := HR3.out.kp (Kp.of_below hV []) (by simp)
                  exact ⟨(b.cell 1).trans rfl, (d.cell 0).trans rfl, (d.cell 1).trans rfl, (d.cell 2).trans rfl, (d.cell 3).trans rfl⟩⟩
                have HINS : Sh (∀ (wy : World) (gy : Nat), Below we.heap.size we wy → Blk wy gy 63 [.int .i64 page, .int .i64 h0, .int .i64 (x4 : Int), .slice (some ⟨g, 0, none⟩) x4 x4].toArray → we.heap.size ≤ gy → Calls Try.prog 28 #[.slice A L.length cap, .int .i64 (i : Int), .slice (some ⟨gy, 0, none⟩) 1 1] wy fun e w' => ∃ A9 n9 c9, e = .returned (.slice A9 n9 c9) ∧ Aft F ga gp c N ((L.take i).map (·.1) ++ ⟨page, allF c page⟩ :: (L.drop i).map (·.1)) W (w'.setCell ⟨gp, 1, none⟩ (.slice A9 n9 c9)) ∧ w'.cell? ⟨gp, 1, none⟩ = some (.slice A L.length cap) ∧ w'.frozen? ⟨gp, 1, none⟩ = false) := ⟨fun wy gy hwy hbx hgy => by
                  have hvt : ∀ k, (Value.slice A L.length cap).ownBlock = some k → ∃ cells, Blk wm k 63 cells := fun k hk => own_typed HPB.out.row k hk
                  have hvgb : ∀ k, (Value.slice A L.length cap).ownBlock = some k → k ≠ gb ∧ k ≠ gp ∧ k < wm.heap.size := fun k hk => by
                    obtain ⟨cells, hc⟩ := hvt k hk
                    exact ⟨hc.ne_ HPB.out.ar.ws (by decide), hc.ne_ HPB.out.pl (by decide), hc.lt⟩
                  have k1 : Kp [gb] wm wy := HR5.out.trans (Kp.of_below hwy _)
                  have hrow := own_move HPB.out.row (fun k hk => k1.block k (hvgb k hk).2.2 (by simp; exact (hvgb k hk).1))
                  have hi := insert_sp (.slice A L.length cap) L.length i (spF c L) [.int .i64 page, .int .i64 h0, .int .i64 (x4 : Int), .slice (some ⟨g, 0, none⟩) x4 x4] gy wy hrow hbx rfl (fun e => by
                    have := (hvgb gy e).2.2
                    have := HR5.out.size
                    omega) (spF_one c L) (fun u hu => by simp at hu; rcases hu with rfl | rfl | rfl | rfl <;> rfl) hple (by have := HP.out.llen; omega)
                  refine hi.mono ?_
                  rintro e w' ⟨v', rfl, ho, hg, hv⟩
                  have hse : spE c (⟨page, allF c page⟩, g) = [.int .i64 page, .int .i64 h0, .int .i64 (x4 : Int), .slice (some ⟨g, 0, none⟩) x4 x4] := by
                    simp only [spE]
                    rw [hh0, HX4.out]
                    simp [allF]
                  rw [← hse] at ho
                  obtain ⟨q1, q2, q3⟩ := PR.added HPB.out HR1.out HR2.out HR5.out HR4.out HZG.out hwy ho hple hg hv HR6.out HR7.out HGD.out
                  have hb2 := ((HPB.out.pl.kp k1 (by simp; exact HNE.out.2.2.2.2.2.2.2)).kp ((Kp.refl ((Value.slice A L.length cap).ownBlock.toList) wy).grown hg (fun k hk => .inl (by simp [hk]))) (by
                    simp
                    intro e
                    exact (hvgb gp e).2.1 rfl))
                  have hsl : ∃ A9 n9 c9, v' = .slice A9 n9 c9 := by
                    rcases ho.2 with ⟨h9, _⟩ | ⟨_, _, _, h9, _⟩
                    · exact ⟨_, _, _, h9⟩
                    · exact ⟨_, _, _, h9⟩
                  obtain ⟨A9, n9, c9, rfl⟩ := hsl
                  refine ⟨A9, n9, c9, rfl, ⟨_, ⟨gb, M', _, _, by rw [List.map_append, List.map_cons], q1⟩, fun k hk => ?_, (Kq.of_below (F := F) HB.out).step q3 (fun g hg => .inl hg)⟩, (hb2.cell 1).trans rfl, hb2.frozen 1⟩
                  rcases q2 k hk with h9 | h9
                  · exact .inl h9
                  · exact .inr (Nat.le_trans HB.out.size h9)⟩
                clear HR1 HR2 HR3 HR4 HR5 HR6 HR7 hh0
                refine start_ (n := 12) (S := fun w' => w'.cell? ⟨gp, 1, none⟩ = some (.slice A L.length cap) ∧ w'.cell? ⟨gs, 0, none⟩ = some (.int .i64 page) ∧ w'.cell? ⟨gs, 1, none⟩ = some (.int .i64 h0) ∧ w'.cell? ⟨gs, 2, none⟩ = some (.int .i64 (x4 : Int)) ∧ w'.cell? ⟨gs, 3, none⟩ = some (.slice (some ⟨g, 0, none⟩) x4 x4)) (ds := [8, 11]) #[false, false, false, false, false, false, false, false, false, false, false, false] (by kernel_rfl) rfl rfl (HSE.out _ (Below.refl _ _).drew) (fun hHeld => ?_)
                have HBw := Sh.mk (Below.refl we.heap.size we).drew
                generalize we.drew = wd at HBw hHeld ⊢
                refine pure_ (i := 0) (N := some 105) (v := ?_) (a' := ?_) #[true, false, false, false, false, false, false, false, false, false, false, false] rfl rfl (by kernel_rfl) (fun _ _ _ h => h) (Or.inl ⟨by rfl, ?_⟩) ?_ ?_
                rotate_left
                · intro w'
                  go_simp
                  with_reducible rfl
                rotate_left
                · simp only [Act.put, List.setIfInBounds_toArray, List.set_cons_zero, List.set_cons_succ, Go.Proofs.YtmmpdpnonnjadaaW.PrintLast.i64_w]
                  rfl
                refine pure_ (i := 1) (N := some 106) (v := ?_) (a' := ?_) #[true, true, false, false, false, false, false, false, false, false, false, false] rfl rfl (by kernel_rfl) (fun _ _ _ h => h) (Or.inl ⟨by rfl, ?_⟩) ?_ ?_
                rotate_left
                · intro w'
                  go_simp
                  with_reducible rfl
                rotate_left
                · simp only [Act.put, List.setIfInBounds_toArray, List.set_cons_zero, List.set_cons_succ, Go.Proofs.YtmmpdpnonnjadaaW.PrintLast.i64_w]
                  rfl
                refine pure_ (i := 2) (N := some 107) (v := ?_) (a' := ?_) #[true, true, true, false, false, false, false, false, false, false, false, false] rfl rfl (by kernel_rfl) (fun _ _ _ h => h) (Or.inl ⟨by rfl, ?_⟩) ?_ ?_
                rotate_left
                · intro w'
                  go_simp
                  with_reducible rfl
                rotate_left
                · simp only [Act.put, List.setIfInBounds_toArray, List.set_cons_zero, List.set_cons_succ, Go.Proofs.YtmmpdpnonnjadaaW.PrintLast.i64_w]
                  rfl
                refine pure_ (i := 3) (N := some 108) (v := ?_) (a' := ?_) #[true, true, true, true, false, false, false, false, false, false, false, false] rfl rfl (by kernel_rfl) (fun _ _ _ h => h) (Or.inl ⟨by rfl, ?_⟩) ?_ ?_
                rotate_left
                · intro w'
                  go_simp
                  with_reducible rfl
                rotate_left
                · simp only [Act.put, List.setIfInBounds_toArray, List.set_cons_zero, List.set_cons_succ, Go.Proofs.YtmmpdpnonnjadaaW.PrintLast.i64_w]
                  rfl
                refine take_ (i := 4) (N := some 109) (v := ?_) (a' := ?_) #[true, true, true, true, true, false, false, false, false, false, false, false] rfl rfl (by kernel_rfl) (fun _ _ _ h => h) (Or.inl ⟨by rfl, ?_⟩) hHeld ?_ ?_
                rotate_left
                · rintro w' ⟨s0, s1, s2, s3, s4⟩
                  go_simp
                  with_reducible rfl
                rotate_left
                · simp only [Act.put, List.setIfInBounds_toArray, List.set_cons_zero, List.set_cons_succ, Go.Proofs.YtmmpdpnonnjadaaW.PrintLast.i64_w]
                  rfl
                refine pure_ (i := 5) (N := some 110) (v := ?_) (a' := ?_) #[true, true, true, true, true, true, false, false, false, false, false, false] rfl rfl (by kernel_rfl) (fun _ _ _ h => h) (Or.inl ⟨by rfl, ?_⟩) ?_ ?_
                rotate_left
                · intro w'
                  go_simp
                  with_reducible rfl
                rotate_left
                · simp only [Act.put, List.setIfInBounds_toArray, List.set_cons_zero, List.set_cons_succ, Go.Proofs.YtmmpdpnonnjadaaW.PrintLast.i64_w]
                  rfl
                refine take_ (i := 6) (N := some 111) (v := ?_) (a' := ?_) #[true, true, true, true, true, true, true, false, false, false, false, false] rfl rfl (by kernel_rfl) (fun _ _ _ h => h) (Or.inl ⟨by rfl, ?_⟩) hHeld ?_ ?_
                rotate_left
                · rintro w' ⟨s0, s1, s2, s3, s4⟩
                  go_simp
                  with_reducible rfl
                rotate_left
                · simp only [Act.put, List.setIfInBounds_toArray, List.set_cons_zero, List.set_cons_succ, Go.Proofs.YtmmpdpnonnjadaaW.PrintLast.i64_w]
                  rfl
                refine one_ (i := 7) (N := some 112) #[true, true, true, true, true, true, true, true, false, false, false, false] rfl rfl (by kernel_rfl) (by decide) (fun K hK => ?_)
                refine val_ (.slice (some ⟨wd.heap.size, 0, none⟩) 1 1) (wd.alloc (.cells [.int .i64 page, .int .i64 h0, .int .i64 (x4 : Int), .slice (some ⟨g, 0, none⟩) x4 x4].toArray 63)) (by rfl) rfl (by first | (go_simp; done) | (go_simp; rfl)) ?_
                obtain ⟨gy, hgy⟩ : ∃ y, y = wd.heap.size := ⟨_, rfl⟩
                have HYB := Sh.mk (below_alloc HBw.out (.cells [.int .i64 page, .int .i64 h0, .int .i64 (x4 : Int), .slice (some ⟨g, 0, none⟩) x4 x4].toArray 63))
                have HYX : Sh (Blk (wd.alloc (.cells [.int .i64 page, .int .i64 h0, .int .i64 (x4 : Int), .slice (some ⟨g, 0, none⟩) x4 x4].toArray 63)) gy 63 [.int .i64 page, .int .i64 h0, .int .i64 (x4 : Int), .slice (some ⟨g, 0, none⟩) x4 x4].toArray) := ⟨Blk.new_ _ _ _ hgy⟩
                have HYG : Sh (we.heap.size ≤ gy) := ⟨by rw [hgy]; exact HBw.out.size⟩
                rw [← hgy]
                clear hgy HBw hHeld
                obtain ⟨wy, hwy⟩ : ∃ z, z = wd.alloc (.cells [.int .i64 page, .int .i64 h0, .int .i64 (x4 : Int), .slice (some ⟨g, 0, none⟩) x4 x4].toArray 63) := ⟨_, rfl⟩
                rw [← hwy] at HYB HYX ⊢
                clear hwy
                refine hK.out _ _ (HSE.out _ HYB.out) (fun hHeld => ?_)
                clear hK K
                refine norm_ (a' := ?_) ?_ ?_
                rotate_left
                · show Act.put _ (some 112) _ = _
                  simp only [Act.put, List.setIfInBounds_toArray, List.set_cons_zero, List.set_cons_succ, Go.Proofs.YtmmpdpnonnjadaaW.PrintLast.i64_w]
                  rfl
                refine last_ (i := 8) (N := some 113) #[true, true, true, true, true, true, true, true, true, false, false, false] rfl rfl (by kernel_rfl) (by decide) (fun K hK => ?_)
                refine goes_ Try.func28 (by kernel_rfl) rfl #[.slice A L.length cap, .int .i64 (i : Int), .slice (some ⟨gy, 0, none⟩) 1 1] (by rfl) rfl rfl (by first | rfl | (simp only [List.map_toArray, List.map_cons, List.map_nil]; rfl)) ?_
                (with_reducible refine (HINS.out wy gy HYB.out HYX.out HYG.out).mono ?_); rintro e w8 ⟨A9, n9, c9, rfl, hi1, hi2, hi3⟩
                refine ⟨_, rfl, ?_⟩
                have HI1 := Sh.mk hi1
                clear hi1 hHeld
                refine hK.out _ _ ?_
                clear hK K
                refine norm_ (a' := ?_) ?_ ?_
                rotate_left
                · show Act.put _ (some 113) _ = _
                  simp only [Act.put, List.setIfInBounds_toArray, List.set_cons_zero, List.set_cons_succ, Go.Proofs.YtmmpdpnonnjadaaW.PrintLast.i64_w]
                  rfl
                refine pure_ (i := 9) (N := some 114) (v := ?_) (a' := ?_) #[true, true, true, true, true, true, true, true, true, true, false, false] rfl rfl (by kernel_rfl) (fun _ _ _ h => h) (Or.inl ⟨by rfl, ?_⟩) ?_ ?_
                rotate_left
                · intro w'
                  go_simp
                  with_reducible rfl
                rotate_left
                · simp only [Act.put, List.setIfInBounds_toArray, List.set_cons_zero, List.set_cons_succ, Go.Proofs.YtmmpdpnonnjadaaW.PrintLast.i64_w]
                  rfl
                refine pure_ (i := 10) (N := some 115) (v := ?_) (a' := ?_) #[true, true, true, true, true, true, true, true, true, true, true, false] rfl rfl (by kernel_rfl) (fun _ _ _ h => h) (Or.inl ⟨by rfl, ?_⟩) ?_ ?_
                rotate_left
                · intro w'
                  go_simp
                  with_reducible rfl
                rotate_left
                · simp only [Act.put, List.setIfInBounds_toArray, List.set_cons_zero, List.set_cons_succ, Go.Proofs.YtmmpdpnonnjadaaW.PrintLast.i64_w]
                  rfl
                refine last_ (i := 11) (N := none) #[true, true, true, true, true, true, true, true, true, true, true, true] rfl rfl (by kernel_rfl) (by decide) (fun K hK => ?_)
                refine skip_ (w1 := ?_) (by rfl) rfl ?_ ?_
                rotate_left
                · go_simp
                  rfl
                refine hK.out _ _ ?_
                clear hK K
                refine done_ (by kernel_rfl) ?_
                go_wp2
                go_ret
                rw [HTR.out]
                exact ⟨rfl, HI1.out⟩
end Go.Proofs.Ytmmpdpnonnjadaa
