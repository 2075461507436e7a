/- The walk of the statement TallyOrder: the order of numbers, and what is no number among them, do not tell; what is handed in is as it was. -/
import Derived.Test.YtojijdfgflcnjaaFlRef
namespace Go.Proofs.Ytojijdfgflcnjaa
set_option linter.unusedVariables false
set_option linter.unusedSimpArgs false
open Go.RowKit Go.Proofs.YtojijdfgflcnjaaW.PrintWords Go.Proofs.YtojijdfgflcnjaaW.PrintLast Go.Proofs.YtojijdfgflcnjaaW.PrintMore Fl Pr

theorem srt_same {l m : List Nat} (hb : ∀ x ∈ l, x < 18446744073709551616) (h : (m.filter fun x => !nanB x).Perm (l.filter fun x => !nanB x)) : srt m = srt l :=
  (srt_uniq l (srt m) hb ((srt_perm m).trans h) (srt_pair m)).symm
/-- A word that is no number. -/
theorem or_nan (n : Int) (h0 : 0 ≤ n) (h1 : n < 18446744073709551616) : ∃ x : Int, bits .or .u64 (bits .or .u64 n 9218868437227405312) 1 = x ∧ 0 ≤ x ∧ x < 18446744073709551616 ∧ nanB x.toNat = true := by
  obtain ⟨n, rfl⟩ := Int.eq_ofNat_of_zero_le h0
  have e1 := (bits_nat .u64 64 (by decide) wr64 n 9218868437227405312 (by omega) (by omega)).2
  have l1 : n ||| 9218868437227405312 < 2 ^ 64 := Nat.or_lt_two_pow (by omega) (by omega)
  have e2 := (bits_nat .u64 64 (by decide) wr64 (n ||| 9218868437227405312) 1 l1 (by omega)).2
  have l2 : (n ||| 9218868437227405312) ||| 1 < 2 ^ 64 := Nat.or_lt_two_pow l1 (by omega)
  refine ⟨(((n ||| 9218868437227405312) ||| 1 : Nat) : Int), ?_, by omega, by omega, ?_⟩
  · rw [show ((9218868437227405312 : Int)) = ((9218868437227405312 : Nat) : Int) from rfl, e1]
    exact e2
  · rw [Int.toNat_natCast]
    have e3 : ((n ||| 9218868437227405312) ||| 1) % 9223372036854775808 = (n % 9223372036854775808) ||| 9218868437227405313 := by
      have h := Nat.or_mod_two_pow (a := n) (b := 9218868437227405313) (n := 63)
      simp only [Nat.reducePow, Nat.reduceMod] at h
      rw [Nat.or_assoc, show (9218868437227405312 ||| 1 : Nat) = 9218868437227405313 from by decide, h]
    unfold nanB rung
    rw [e3]
    have := @Nat.right_le_or (n % 9223372036854775808) 9218868437227405313
    simp only [decide_eq_true_eq]
    omega
theorem R_made0f {w wr : World} (hb : Below w.heap.size w wr) : Kd.R kf 25 (wr.alloc (.cells #[] 25)).drew w.heap.size (fun _ => True) (.slice (some ⟨wr.heap.size, 0, none⟩) 0 0) [] :=
  ⟨fun _ _ => trivial, [], World.ownsRow_made wr #[] 0 hb.size (by simp [maxLen]) (by rfl), Reps.none _ _⟩
theorem filter_snoc_nan {M : List Nat} {x : Nat} (h : nanB x = true) : (M ++ [x]).filter (fun x => !nanB x) = M.filter (fun x => !nanB x) := by
  rw [List.filter_append]; simp [h]
theorem perm_snoc {M L : List Nat} (x : Nat) (h : (M.filter fun x => !nanB x).Perm (L.filter fun x => !nanB x)) : ((M ++ [x]).filter fun x => !nanB x).Perm ((x :: L).filter fun x => !nanB x) := by
  cases hn : nanB x with
  | false =>
    have e1 : (M ++ [x]).filter (fun x => !nanB x) = M.filter (fun x => !nanB x) ++ [x] := by rw [List.filter_append]; simp [hn]
    have e2 : (x :: L).filter (fun x => !nanB x) = x :: L.filter (fun x => !nanB x) := by simp [hn]
    rw [e1, e2]
    exact (List.perm_append_comm).trans (by simpa using h.cons x)
  | true =>
    have e2 : (x :: L).filter (fun x => !nanB x) = L.filter (fun x => !nanB x) := by simp [hn]
    rw [filter_snoc_nan hn, e2]
    exact h
set_option maxRecDepth 100000 in
set_option maxHeartbeats 4000000 in
theorem tallyOrder_walk (A0 : Option Addr) (c0 : Nat) (l0 : List Int) (a1 a2 : Int) (w : World) (hr0 : Kd.C (Kd.int .u64) w A0 l0.length l0) (hc0 : l0.length ≤ c0) (hw0 : ∀ x ∈ l0, (Lit.int .u64 x).wf = true) (y0 : l0.length * 8 ≤ 140737488351232) (hw1 : (Lit.int .u8 a1).wf = true) (hw2 : (Lit.int .u64 a2).wf = true) :
    Calls Try.prog 4 #[.slice A0 l0.length c0, .int .u8 a1, .int .u64 a2] w fun e w' => e = .returned (.bool true) ∧ Below w.heap.size w w' := by
  have HN := Sh.mk (nums_any A0 c0 l0 w hr0 (by omega))
  have hlt := numsL_lt (u64_mem hw0)
  have hlen : (numsL l0).length ≤ 300 := by rw [numsL_len]; omega
  have hle0 : (numsL l0).length ≤ l0.length := by rw [numsL_len]; omega
  have hat : ∀ i : Nat, i < (numsL l0).length → (rd l0 (i : Int)).toNat = (numsL l0).getD i 0 := by
    intro i hi
    rw [numsL_len] at hi
    have h1 : i < l0.length := by omega
    simp only [numsL, rd, Int.toNat_natCast, List.getD_eq_getElem?_getD, List.getElem?_map, List.getElem?_take, List.getElem?_eq_getElem h1]
    rw [if_pos (by omega)]
    rfl
  have hb1 := Go.Proofs.Ytojijdfgflcnjaa.Pure.u8_of hw1
  obtain ⟨X, hX, hX0, hX1, hX2⟩ := or_nan a2 (u64_mem (ws := [a2]) (by simpa using hw2) a2 (by simp)).1 (u64_mem (ws := [a2]) (by simpa using hw2) a2 (by simp)).2
  obtain ⟨l, hl⟩ : ∃ l, l = numsL l0 := ⟨_, rfl⟩
  rw [← hl] at HN hlt hlen hat hle0
  have HLT := Sh.mk hlt
  have HAT := Sh.mk hat
  have HR := Sh.mk hr0
  have HX2 := Sh.mk hX2
  have HX3 : Sh (X.toNat < 18446744073709551616) := ⟨by omega⟩
  obtain ⟨hb10, hb11⟩ := hb1
  clear hl hr0 hw0 y0 hlt hw1 hw2 hat hX2
  go_enter Try.func4, Try.ntmps4
  go_wp2_with fail
  (with_reducible refine HN.out.mono ?_); rintro e w1 ⟨v, rfl, h1, h2⟩
  obtain ⟨A, c, e2, hcc, hC⟩ := Kd.R_reads h1
  subst e2
  have HB := Sh.mk h2
  have HC := Sh.mk hC
  clear h1 h2 hC HN
  go_wp2
  go_loopw [8, 9] (fun lv i wr => ∃ (q : Nat) (z : Int) (M : List Nat), q ≤ l.length ∧ i = .int .i64 z ∧ z + 1 = q ∧ Sh (Kd.R kf 25 wr w1.heap.size (fun _ => True) lv M) ∧ Sh (Below w1.heap.size w1 wr) ∧ Sh ((M.filter fun x => !nanB x).Perm ((l.drop q).filter fun x => !nanB x)) ∧ Sh (∀ x ∈ M, x < 18446744073709551616) ∧ Sh (M.length ≤ 2 * (l.length - q))) (fun lv i _ => (intOf i + 1).toNat)
  case atStart => exact ⟨l.length, (l.length : Int) - 1, [], Nat.le_refl _, rfl, by omega, ⟨Kd.R_nil _ _ _ _ _⟩, ⟨Below.refl _ _⟩, ⟨by simp⟩, ⟨by simp⟩, ⟨by simp⟩⟩
  case round =>
    obtain ⟨q, z, M, hq, rfl, hz, HO, HB1, HP, HML, HMn⟩ := hrel
    obtain ⟨Ao, co, eo⟩ := Kd.R_slice HO.out
    subst eo
    cases q with
    | succ q =>
      obtain rfl : z = (q : Int) := by omega
      obtain ⟨ad, e9, -, hcell⟩ := at_f (Kd.C_below HC.out HB1.out) (q : Int) (by omega) (by omega) 0
      subst e9
      rw [Int.toNat_natCast] at hcell
      have hdr : l.drop q = l.getD q 0 :: l.drop (q + 1) := by
        rw [List.drop_eq_getElem_cons (by omega), List.getD_eq_getElem?_getD, List.getElem?_eq_getElem (by omega)]
        rfl
      have hxb : l.getD q 0 < 18446744073709551616 := by
        rw [List.getD_eq_getElem?_getD, List.getElem?_eq_getElem (by omega)]
        exact HLT.out _ (List.getElem_mem _)
      obtain ⟨x, hx⟩ : ∃ x, x = l.getD q 0 := ⟨_, rfl⟩
      rw [← hx] at hcell hdr hxb
      have HDR := Sh.mk hdr
      have LM : Sh (M.length < 1000) := ⟨by have := HMn.out; omega⟩
      have HM2 : Sh (∀ y ∈ M ++ [x], y < 18446744073709551616) := ⟨fun y hy => by
        rcases List.mem_append.1 hy with h | h
        · exact HML.out y h
        · simp at h; subst h; exact hxb⟩
      have HP2 : Sh (((M ++ [x]).filter fun x => !nanB x).Perm ((l.drop q).filter fun x => !nanB x)) := ⟨by rw [HDR.out]; exact perm_snoc x HP.out⟩
      clear hdr hx hxb
      by_cases h3 : ((q : Int) + a1) % 3 = 0
      · have b3 : (((q : Int) + a1) % 3 == 0) = true := beq_iff_eq.2 h3
        clear h3
        go_wp2_with (first | ((with_reducible refine gate_builtin (b := .append) (xs := #[.tmp 27, .tmp 32]) rfl ?_); (try (refine gate_guard (by rfl) ?_; dsimp only)); at_builtin; refine Kd.R_append kf (w0 := w1) w1.heap.size rfl (.tmp 27) (.tmp 32) 23 25 (.float .f64 0) 8 rfl Try.underlying23 info_f rfl (by decide) (by omega) (.slice Ao M.length co) M x [.float .f64 x] (fun _ => True) (fun _ => False) rfl rfl ?aP (fun _ hk => hk.elim) ?aF ?aO ?aB ?aS ?aL ?_; (case aP => exact rfl); (case aB => exact (by repeat (first | exact HB1.out | apply below_alloc | apply pw_below_drewN | apply below_drew1))); (case aF => exact (fun _ _ => trivial)); (case aO => exact (by (with_reducible repeat (first | apply Kd.R_alloc | apply Kd.R_drewN | apply Kd.R_drew)); exact HO.out)); (case aS => exact below_size (by repeat (first | exact HB1.out | apply below_alloc | apply pw_below_drewN | apply below_drew1))); (case aL => have := LM.out; omega); intro v44 w14 ho hb hg hat; have HO' := Sh.mk ho; have HB' := Sh.mk hb; clear ho hb hg hat))
        obtain ⟨M2, hM2⟩ : ∃ M2, M2 = M ++ [x] := ⟨_, rfl⟩
        have hl2 : M2.length = M.length + 1 := by rw [hM2]; simp
        rw [← hM2] at HO' HP2 HM2
        obtain ⟨Ao2, co2, eo2⟩ := Kd.R_slice HO'.out
        subst eo2
        have LM2 : Sh (M2.length < 2000) := ⟨by have := LM.out; omega⟩
        have HMn2 : Sh (M2.length ≤ 2 * (l.length - (q + 1)) + 1) := ⟨by have := HMn.out; omega⟩
        clear hM2 hl2
        go_wp2_with fail
        (with_reducible refine (rnum_any _ _).mono ?_); rintro e w' ⟨rfl, rfl⟩
        go_wp2_with (first | ((with_reducible refine gate_builtin (b := .append) (xs := #[.tmp 40, .tmp 45]) rfl ?_); (try (refine gate_guard (by rfl) ?_; dsimp only)); at_builtin; refine Kd.R_append kf (w0 := w1) w1.heap.size rfl (.tmp 40) (.tmp 45) 23 25 (.float .f64 0) 8 rfl Try.underlying23 info_f rfl (by decide) (by omega) (.slice Ao2 M2.length co2) M2 X.toNat [.float .f64 X.toNat] (fun _ => True) (fun _ => False) rfl rfl ?aP (fun _ hk => hk.elim) ?aF ?aO ?aB ?aS ?aL ?_; (case aP => exact rfl); (case aB => exact (by repeat (first | exact HB'.out | apply below_alloc | apply pw_below_drewN | apply below_drew1))); (case aF => exact (fun _ _ => trivial)); (case aO => exact (by (with_reducible repeat (first | apply Kd.R_alloc | apply Kd.R_drewN | apply Kd.R_drew)); exact HO'.out)); (case aS => exact below_size (by repeat (first | exact HB'.out | apply below_alloc | apply pw_below_drewN | apply below_drew1))); (case aL => have := LM2.out; omega); intro v45 w15 ho hb hg hat; have HO2 := Sh.mk ho; have HB2 := Sh.mk hb; clear ho hb hg hat))
        go_roundw
        case measure => simp [intOf]
        case rel => exact ⟨q, (q : Int) - 1, M2 ++ [X.toNat], by omega, rfl, by omega, HO2, HB2, ⟨by rw [filter_snoc_nan HX2.out]; exact HP2.out⟩, ⟨fun y hy => by
          rcases List.mem_append.1 hy with h | h
          · exact HM2.out y h
          · simp at h; subst h; exact HX3.out⟩, ⟨by have := HMn2.out; simp; omega⟩⟩
      · have b3 : (((q : Int) + a1) % 3 == 0) = false := beq_eq_false_iff_ne.2 h3
        clear h3
        go_wp2_with (first | ((with_reducible refine gate_builtin (b := .append) (xs := #[.tmp 27, .tmp 32]) rfl ?_); (try (refine gate_guard (by rfl) ?_; dsimp only)); at_builtin; refine Kd.R_append kf (w0 := w1) w1.heap.size rfl (.tmp 27) (.tmp 32) 23 25 (.float .f64 0) 8 rfl Try.underlying23 info_f rfl (by decide) (by omega) (.slice Ao M.length co) M x [.float .f64 x] (fun _ => True) (fun _ => False) rfl rfl ?aP (fun _ hk => hk.elim) ?aF ?aO ?aB ?aS ?aL ?_; (case aP => exact rfl); (case aB => exact (by repeat (first | exact HB1.out | apply below_alloc | apply pw_below_drewN | apply below_drew1))); (case aF => exact (fun _ _ => trivial)); (case aO => exact (by (with_reducible repeat (first | apply Kd.R_alloc | apply Kd.R_drewN | apply Kd.R_drew)); exact HO.out)); (case aS => exact below_size (by repeat (first | exact HB1.out | apply below_alloc | apply pw_below_drewN | apply below_drew1))); (case aL => have := LM.out; omega); intro v44 w14 ho hb hg hat; have HO' := Sh.mk ho; have HB' := Sh.mk hb; clear ho hb hg hat))
        go_roundw
        case measure => simp [intOf]
        case rel => exact ⟨q, (q : Int) - 1, M ++ [x], by omega, rfl, by omega, HO', HB', HP2, HM2, ⟨by have := HMn.out; simp; omega⟩⟩
    | zero =>
      obtain rfl : z = -1 := by omega
      have HS : Sh (srt M = srt l) := ⟨srt_same HLT.out (by simpa using HP.out)⟩
      have HMl : Sh (M.length ≤ 600) := ⟨by have := HMn.out; omega⟩
      have hcM := (Kd.R_reads' HO.out).2
      have HCM := Sh.mk hcM.2
      have hcM1 := hcM.1
      clear hcM
      rcases Nat.eq_zero_or_pos M.length with h0 | h0
      · have g0 : decide ((M.length : Int) > 0) = false := decide_eq_false (by omega)
        have g1 : decide (0 < M.length) = false := decide_eq_false (by omega)
        clear h0
        go_wp2_with fail
        (with_reducible refine (ends_any A c l wr (Kd.C_below HC.out HB1.out) (by omega) HLT.out).mono ?_); rintro e u1 ⟨rfl, b⟩
        have U1 : Sh (Below w1.heap.size w1 u1) := ⟨below_then HB1.out HB1.out.size b⟩
        have V1 : Sh (Kd.C kf u1 Ao M.length M) := ⟨Kd.C_below HCM.out b⟩
        clear b
        go_wp2_with fail
        (with_reducible refine (ends_any Ao co M u1 V1.out (by have := HMl.out; omega) HML.out).mono ?_); rintro e u2 ⟨rfl, b⟩
        have U2 : Sh (Below w1.heap.size w1 u2) := ⟨below_then U1.out U1.out.size b⟩
        have V2 : Sh (Kd.C kf u2 Ao M.length M) := ⟨Kd.C_below V1.out b⟩
        clear b
        rw [show loN M = loN l from by unfold loN; rw [HS.out], show hiN M = hiN l from by unfold hiN; rw [HS.out]]
        go_wp2_with fail
        (with_reducible refine (mid_any A c l u2 (Kd.C_below HC.out U2.out) (by omega) HLT.out).mono ?_); rintro e u3 ⟨rfl, b⟩
        have U3 : Sh (Below w1.heap.size w1 u3) := ⟨below_then U2.out U2.out.size b⟩
        have V3 : Sh (Kd.C kf u3 Ao M.length M) := ⟨Kd.C_below V2.out b⟩
        clear b
        go_wp2_with fail
        (with_reducible refine (mid_any Ao co M u3 V3.out (by have := HMl.out; omega) HML.out).mono ?_); rintro e u4 ⟨rfl, b⟩
        have U4 : Sh (Below w1.heap.size w1 u4) := ⟨below_then U3.out U3.out.size b⟩
        clear b
        rw [show midN M = midN l from by unfold midN; rw [HS.out]]
        go_wp2
        go_loopw [17] (fun i wr => ∃ k : Nat, k ≤ l.length ∧ i = .int .i64 k ∧ Sh (Below w1.heap.size w1 wr)) (fun i _ => l.length - (intOf i).toNat)
        case atStart => exact ⟨0, Nat.zero_le _, rfl, U4⟩
        case round =>
          obtain ⟨k, hk, rfl, HBr⟩ := hrel
          by_cases hlt : k < l.length
          · obtain ⟨ad, e9, -, hcell⟩ := at_f (Kd.C_below HC.out HBr.out) (k : Int) (by omega) (by omega) 0
            subst e9
            obtain ⟨ad0, e8, hcell0⟩ := Kd.at_int (Kd.C_below (Kd.C_below HR.out HB.out) HBr.out) (k : Int) (by omega) (by omega)
            subst e8
            rw [Int.toNat_natCast] at hcell hcell0
            have hy := HAT.out k hlt
            obtain ⟨x, hx⟩ : ∃ x, x = l.getD k 0 := ⟨_, rfl⟩
            obtain ⟨y, hy2⟩ : ∃ y, y = rd l0 (k : Int) := ⟨_, rfl⟩
            rw [← hx] at hcell hy
            rw [← hy2] at hcell0 hy
            have NUM : Sh (∀ W, Calls Try.prog 18 #[.int .u64 y] W fun e w' => e = .returned (.float .f64 x) ∧ W = w') := ⟨fun W => (rnum_any y W).mono (fun e w' h => by rw [hy] at h; exact h)⟩
            clear hx hy2 hy
            go_wp2_with fail
            go_quiet ((first
              | (go_at_call 14; exact Calls.quiet_of_same ((rword_any x _).mono (fun e w' h => ⟨h.1, h.2.symm⟩)))
              | (go_at_call 18; exact Calls.quiet_of_same ((NUM.out _).mono (fun e w' h => ⟨h.1, h.2.symm⟩)))))
            go_wp2
            go_roundw
            case measure => simp [intOf]; omega
            case rel => exact ⟨k + 1, by omega, by go_num, ⟨by first | exact HBr.out | exact below_then HBr.out HBr.out.size (pw_below_drewN (Below.refl _ _) _)⟩⟩
          · go_wp2_with (go_at_call 19; (with_reducible refine (word_any _ _).mono ?_); rintro e w' ⟨rfl, rfl⟩)
            (with_reducible refine (awake_any _).mono ?_); rintro e u5 ⟨rfl, b⟩
            have U5 : Sh (Below w1.heap.size w1 u5) := ⟨below_then HBr.out HBr.out.size b⟩
            clear b
            go_wp2
            go_ret
            exact ⟨rfl, below_then HB.out HB.out.size U5.out⟩
      · have HMl2 := HMl.out
        obtain ⟨K, hK⟩ : ∃ K : Nat, (a1 % (M.length : Int)) = (K : Int) := ⟨(a1 % (M.length : Int)).toNat, by have := Int.emod_nonneg a1 (show (M.length : Int) ≠ 0 by omega); omega⟩
        have hKl : K < M.length := by have := Int.emod_lt_of_pos a1 (show (0 : Int) < M.length by omega); omega
        obtain ⟨i25, hi25, hi2, hi3, hi4⟩ := info_parts info_f
        have cut1 : ∀ W : World, (Instr.slice 23 (.slice Ao M.length co) none (some (.int .i64 (K : Int))) none).run Try.prog W = .ok (.slice Ao K co) W := by
          have := cut_to (P := Try.prog) 23 25 .i64 Try.underlying23 hi25 Ao M.length co (K : Int) (by omega) (by omega) hcM1
          simpa using this
        obtain ⟨Bo, hBo⟩ : ∃ Bo, Bo = if co = K then Ao else Ao.map (·.add (K * 1)) := ⟨_, rfl⟩
        have cut2 : ∀ W : World, (Instr.slice 23 (.slice Ao M.length co) (some (.int .i64 (K : Int))) none none).run Try.prog W = .ok (.slice Bo (M.length - K) (co - K)) W := by
          have := cut_from (P := Try.prog) 23 25 .i64 Try.underlying23 hi25 1 hi3 Ao M.length co (K : Int) (by omega) (by omega)
          rw [hBo]
          simpa using this
        have CT : Sh (Kd.C kf wr Ao K (M.take K)) := ⟨by
          have := Kd.C_take (m := K) HCM.out (by omega)
          rwa [List.length_take, Nat.min_eq_left (by omega)] at this⟩
        have CD : Sh (Kd.C kf wr Bo (M.length - K) (M.drop K)) := ⟨by
          have := Kd.C_drop (m := K) HCM.out (by omega) hcM1
          rw [List.length_drop] at this
          rw [hBo]
          exact this⟩
        have WB := Sh.mk (Below.refl wr.heap.size wr)
        have zM : ¬ ((M.length : Int) = 0) := by omega
        clear hBo hi25 hi2 hi3 hi4
        go_wp2_with fail
        go_region_law (first
          | (refine Kd.R_append_rows_step kf (w0 := wr) wr.heap.size (by rfl) (.tmp 55) (.tmp 58) 23 25 (.float .f64 0) 8 rfl Try.underlying23 info_f rfl (by decide) (by omega) (.slice (some ⟨wr.heap.size, 0, none⟩) 0 0) [] (M.drop K) Bo (M.length - K) (co - K) (fun _ => True) (fun _ => False) (by simp [Act.eval, Act.put]) (by simp [Act.eval, Act.put]) ?aO ?aR (fun _ _ h => h) (fun _ h => h.elim) (fun _ _ => trivial) ?aB ?aS ?aL ?_; (case aO => exact R_made0f WB.out); (case aR => repeat (first | exact CD.out | apply Kd.C_alloc | apply Kd.C_drewN | apply Kd.C_drew)); (case aB => repeat (first | exact WB.out | apply below_alloc | apply below_drew | apply pw_below_drewN)); (case aS => simp <;> omega); (case aL => simp only [List.length_nil]; omega); intro v1 w2 ho hb hg hat; clear hg hat; rw [List.nil_append] at ho; have HO1 := Sh.mk ho; have HBx := Sh.mk hb; clear ho hb)
          | (refine Kd.R_append_rows_step kf (w0 := wr) wr.heap.size (by rfl) (.tmp 59) (.tmp 62) 23 25 (.float .f64 0) 8 rfl Try.underlying23 info_f rfl (by decide) (by omega) v1 (M.drop K) (M.take K) Ao K co (fun _ => True) (fun _ => False) (by simp [Act.eval, Act.put]) (by simp [Act.eval, Act.put]) HO1.out ?aR (fun _ _ h => h) (fun _ h => h.elim) (fun _ _ => trivial) HBx.out ?aS ?aL ?_; (case aR => exact Kd.C_below CT.out HBx.out); (case aS => exact HBx.out.size); (case aL => simp only [List.length_drop]; omega); intro v2 w3 ho hb hg hat; clear hg hat; have HO2 := Sh.mk ho; have HB2 := Sh.mk hb; clear ho hb))
        obtain ⟨M3, hM3⟩ : ∃ M3, M3 = M.drop K ++ M.take K := ⟨_, rfl⟩
        have hp3 : M3.Perm M := by
          rw [hM3]
          have := List.perm_append_comm (l₁ := M.drop K) (l₂ := M.take K)
          rwa [List.take_append_drop] at this
        have HS3 : Sh (srt M3 = srt l) := ⟨(srt_same HML.out (hp3.filter _)).trans HS.out⟩
        have HL3 : Sh (∀ x ∈ M3, x < 18446744073709551616) := ⟨fun x hx => HML.out x (hp3.mem_iff.1 hx)⟩
        have HLen3 : Sh (M3.length ≤ 600) := ⟨by rw [hp3.length_eq]; exact HMl2⟩
        rw [← hM3] at HO2
        obtain ⟨A3, c3, e7, hc3, hC3⟩ := Kd.R_reads HO2.out
        subst e7
        have HC3 := Sh.mk hC3
        have HB3 : Sh (Below w1.heap.size w1 w3) := ⟨below_then HB1.out HB1.out.size HB2.out⟩
        clear hM3 hp3 hC3 HMl2 hKl zM
        go_wp2_with fail
        (with_reducible refine (ends_any A c l w3 (Kd.C_below HC.out HB3.out) (by omega) HLT.out).mono ?_); rintro e u1 ⟨rfl, b⟩
        have U1 : Sh (Below w1.heap.size w1 u1) := ⟨below_then HB3.out HB3.out.size b⟩
        have V1 : Sh (Kd.C kf u1 A3 M3.length M3) := ⟨Kd.C_below HC3.out b⟩
        clear b
        go_wp2_with fail
        (with_reducible refine (ends_any A3 c3 M3 u1 V1.out (by have := HLen3.out; omega) HL3.out).mono ?_); rintro e u2 ⟨rfl, b⟩
        have U2 : Sh (Below w1.heap.size w1 u2) := ⟨below_then U1.out U1.out.size b⟩
        have V2 : Sh (Kd.C kf u2 A3 M3.length M3) := ⟨Kd.C_below V1.out b⟩
        clear b
        rw [show loN M3 = loN l from by unfold loN; rw [HS3.out], show hiN M3 = hiN l from by unfold hiN; rw [HS3.out]]
        go_wp2_with fail
        (with_reducible refine (mid_any A c l u2 (Kd.C_below HC.out U2.out) (by omega) HLT.out).mono ?_); rintro e u3 ⟨rfl, b⟩
        have U3 : Sh (Below w1.heap.size w1 u3) := ⟨below_then U2.out U2.out.size b⟩
        have V3 : Sh (Kd.C kf u3 A3 M3.length M3) := ⟨Kd.C_below V2.out b⟩
        clear b
        go_wp2_with fail
        (with_reducible refine (mid_any A3 c3 M3 u3 V3.out (by have := HLen3.out; omega) HL3.out).mono ?_); rintro e u4 ⟨rfl, b⟩
        have U4 : Sh (Below w1.heap.size w1 u4) := ⟨below_then U3.out U3.out.size b⟩
        clear b
        rw [show midN M3 = midN l from by unfold midN; rw [HS3.out]]
        go_wp2
        go_loopw [17] (fun i wr => ∃ k : Nat, k ≤ l.length ∧ i = .int .i64 k ∧ Sh (Below w1.heap.size w1 wr)) (fun i _ => l.length - (intOf i).toNat)
        case atStart => exact ⟨0, Nat.zero_le _, rfl, U4⟩
        case round =>
          obtain ⟨k, hk, rfl, HBr⟩ := hrel
          by_cases hlt : k < l.length
          · obtain ⟨ad, e9, -, hcell⟩ := at_f (Kd.C_below HC.out HBr.out) (k : Int) (by omega) (by omega) 0
            subst e9
            obtain ⟨ad0, e8, hcell0⟩ := Kd.at_int (Kd.C_below (Kd.C_below HR.out HB.out) HBr.out) (k : Int) (by omega) (by omega)
            subst e8
            rw [Int.toNat_natCast] at hcell hcell0
            have hy := HAT.out k hlt
            obtain ⟨x, hx⟩ : ∃ x, x = l.getD k 0 := ⟨_, rfl⟩
            obtain ⟨y, hy2⟩ : ∃ y, y = rd l0 (k : Int) := ⟨_, rfl⟩
            rw [← hx] at hcell hy
            rw [← hy2] at hcell0 hy
            have NUM : Sh (∀ W, Calls Try.prog 18 #[.int .u64 y] W fun e w' => e = .returned (.float .f64 x) ∧ W = w') := ⟨fun W => (rnum_any y W).mono (fun e w' h => by rw [hy] at h; exact h)⟩
            clear hx hy2 hy
            go_wp2_with fail
            go_quiet ((first
              | (go_at_call 14; exact Calls.quiet_of_same ((rword_any x _).mono (fun e w' h => ⟨h.1, h.2.symm⟩)))
              | (go_at_call 18; exact Calls.quiet_of_same ((NUM.out _).mono (fun e w' h => ⟨h.1, h.2.symm⟩)))))
            go_wp2
            go_roundw
            case measure => simp [intOf]; omega
            case rel => exact ⟨k + 1, by omega, by go_num, ⟨by first | exact HBr.out | exact below_then HBr.out HBr.out.size (pw_below_drewN (Below.refl _ _) _)⟩⟩
          · go_wp2_with (go_at_call 19; (with_reducible refine (word_any _ _).mono ?_); rintro e w' ⟨rfl, rfl⟩)
            (with_reducible refine (awake_any _).mono ?_); rintro e u5 ⟨rfl, b⟩
            have U5 : Sh (Below w1.heap.size w1 u5) := ⟨below_then HBr.out HBr.out.size b⟩
            clear b
            go_wp2
            go_ret
            exact ⟨rfl, below_then HB.out HB.out.size U5.out⟩
end Go.Proofs.Ytojijdfgflcnjaa
