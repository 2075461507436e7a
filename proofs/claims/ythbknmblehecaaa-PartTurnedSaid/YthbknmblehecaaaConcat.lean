/- slices.Grow of nothing and slices.Concat of a row of slices of pieces: contracts. No statement is proved here. -/
import Derived.Test.YthbknmblehecaaaRowk
import Derived.Test.YthbknmblehecaaaPrx0
namespace Go.Proofs.Ythbknmblehecaaa
set_option linter.unusedVariables false
set_option linter.unusedSimpArgs false
open Go.RowKit Go.Proofs.YthbknmblehecaaaW.PrintWords Go.Proofs.YthbknmblehecaaaW.PrintLast Go.Proofs.YthbknmblehecaaaW.PrintMore Pr

abbrev Pc := S58
theorem infoPc : (Try.prog.info? 58).map (fun i => (i.zero, i.size, i.bytes)) = some (some (.agg #[.int .i64 0, .int .i64 0]), 2, 16) := by rfl
/-- append(nil[:0], make(S, m)...). -/
theorem run_append_zeros_nil {P : Program} (w : World) (t ti ty e : TypeId) (i : TypeInfo) (z : Value) (k bytes : Nat) (ht : P.underlying t = some (.slice e)) {kx : IntKind} (hti : P.underlying ti = some (.int kx)) (hi : P.info? e = some i) (hz : i.zero = some z)
    (hsize : i.size = k) (hby : i.bytes = bytes) (hk : 0 < k) (m : Nat) (hm : 0 < m) (hbytes : m * bytes ≤ 140737488355328) (hb0 : 0 < bytes) :
    (Builtin.append_ #[t, ti] ty #[.slice none 0 0, .int .i64 m]).run P w =
      .ok (.slice (some ⟨w.heap.size, 0, none⟩) m (grownCap w m 0 e)) (w.drew.alloc (.cells (Builtin.zeroCells z.cells m ++ Builtin.zeroCells z.cells (grownCap w m 0 e - m)) e)) := by
  subst hsize
  subst hby
  have hle : m ≤ 140737488355328 := Nat.le_trans (Nat.le_mul_of_pos_right _ hb0) hbytes
  have hw : IntKind.i64.wrap (m : Int) = m := by rw [IntKind.wrap_i64]; omega
  have hneg : ¬ ((m : Int) < 0) := by omega
  have hbig : ¬ (281474976710656 < (m : Int) * (i.bytes : Int)) := by
    rw [← Int.natCast_mul]
    omega
  have hn : ¬ (m ≤ 0) := by omega
  have h63' : ¬ (9223372036854775807 < (m : Int)) := by omega
  have hfit' := growslice_fits (need := m) (old := 0) (by omega) hbytes
  have h48' : ¬ (281474976710656 < Builtin.nextslicecap m 0 * i.bytes) := by omega
  have hmz : ¬ (m * i.size = 0) := Nat.mul_ne_zero (by omega) (by omega)
  have hm0 : ¬ (m = 0) := by omega
  simp [Builtin.append_, run_underlying ht, run_underlying hti, sizeOf, typeInfo, zeroValue, hi, hz, asInt, asIntOf, hw, hneg, hbig, hn, h63', h48', Question.forced, newRow, grownCap, hmz, Builtin.firstCells, hm0]

set_option maxRecDepth 100000 in
set_option maxHeartbeats 4000000 in
theorem grow_any (n : Nat) (hn : n * 16 ≤ 140737488355328) (w : World) :
    Calls Try.prog 67 #[.slice none 0 0, .int .i64 n] w fun e w' => ∃ v, e = .returned v ∧ Kd.R k58 58 w' w.heap.size (fun _ => True) v [] ∧ Below w.heap.size w w' := by
  obtain ⟨i0, hi0, hz0, hz1, hz2⟩ := info_parts infoPc
  have q0 : ¬ ((n : Int) < 0) := by omega
  have q1 : IntKind.i64.wrap ((n : Int) - 0) = (n : Int) := by rw [IntKind.wrap_i64]; omega
  have q2 : IntKind.i64.wrap (n : Int) = (n : Int) := by rw [IntKind.wrap_i64]; omega
  by_cases h0 : n = 0
  · subst h0
    go_enter Try.func67, Try.ntmps67
    go_wp2
    go_ret
    exact ⟨_, rfl, Kd.R_nil _ _ _ _ _, Below.refl _ _⟩
  · have hnp : (0 : Int) < (n : Int) := by omega
    have hap : ∀ ty, (Builtin.append_ #[44, 3] ty #[.slice none 0 0, .int .i64 (n : Int)]).run Try.prog w = .ok (.slice (some ⟨w.heap.size, 0, none⟩) n (grownCap w n 0 58)) (w.drew.alloc (.cells (Builtin.zeroCells (.agg #[.int .i64 0, .int .i64 0] : Value).cells n ++ Builtin.zeroCells (.agg #[.int .i64 0, .int .i64 0] : Value).cells (grownCap w n 0 58 - n)) 58)) := fun ty =>
      run_append_zeros_nil (P := Try.prog) w 44 3 ty 58 i0 (.agg #[.int .i64 0, .int .i64 0]) 2 16 Try.underlying44 Try.underlying3 hi0 hz0 hz1 hz2 (by omega) n (by omega) hn (by omega)
    obtain ⟨C, hC⟩ : ∃ C, C = grownCap w n 0 58 := ⟨_, rfl⟩
    have hC1 : n ≤ C := by rw [hC]; exact grownCap_ge w n 0 58
    have hC2 : C ≤ maxLen := by rw [hC]; exact grownCap_le_maxLen w _ 0 58 (by simp only [maxLen]; omega)
    have hC63 : C ≤ 9223372036854775807 := by simp only [maxLen] at hC2; omega
    rw [← hC] at hap
    obtain ⟨D, hD⟩ : ∃ D : Array Value, D = Builtin.zeroCells (.agg #[.int .i64 0, .int .i64 0] : Value).cells n ++ Builtin.zeroCells (.agg #[.int .i64 0, .int .i64 0] : Value).cells (C - n) := ⟨_, rfl⟩
    have hDs : D.size = C * 2 := by rw [hD, Array.size_append, size_zeroCells, size_zeroCells]; show n * 2 + (C - n) * 2 = C * 2; omega
    rw [← hD] at hap
    obtain ⟨W1, hW1⟩ : ∃ W1, W1 = w.drew.alloc (.cells D 58) := ⟨_, rfl⟩
    rw [← hW1] at hap
    have HF : Sh (Kd.R k58 58 W1 w.heap.size (fun _ => True) (.slice (some ⟨w.heap.size, 0, none⟩) 0 C) [] ∧ Below w.heap.size w W1) := ⟨by
      rw [hW1]
      exact ⟨⟨fun _ _ => trivial, [], ⟨rfl, .inr ⟨w.heap.size, C, D, rfl, Nat.le_refl _, Blk.new w.drew _ _, Nat.zero_le _, hC2, hDs, by simp⟩⟩, Reps.none _ _⟩, below_alloc (below_drew (Below.refl _ _)) _⟩⟩
    have c1 := cut_to (P := Try.prog) 44 58 .i64 Try.underlying44 hi0 none 0 0 (0 : Int) (by omega) (by omega) (by omega)
    have c2 := cut_to (P := Try.prog) 44 58 .i64 Try.underlying44 hi0 (some ⟨w.heap.size, 0, none⟩) n C (0 : Int) (by omega) (by omega) hC1
    obtain ⟨h, hh⟩ : ∃ h, h = w.heap.size := ⟨_, rfl⟩
    rw [← hh] at hap c2 HF
    clear hC hD hDs hW1 hC2 hi0 hz0 hz1 hz2
    go_enter Try.func67, Try.ntmps67
    go_wp2_with (at_builtin; refine wpList_append_eq rfl (.tmp 20) (.tmp 21) 44 3 rfl _ _ rfl rfl (hap _) ?_)
    go_ret
    refine ⟨_, rfl, ?_⟩
    rw [← hh]
    exact HF.out

/-- One slice of a row of slices. -/
theorem at_many {w : World} {A : Option Addr} {n : Nat} {xs : List (List Pc)} (h : Kd.C (Kd.slice 58 k58) w A n xs) (i : Nat) (h1 : i < n) (l : List Pc) (hl : xs[i]? = some l) : ∃ ad A0 c0, A = some ad ∧ w.cell? (ad.add i) = some (.slice A0 l.length c0) ∧ l.length ≤ c0 ∧ Kd.C k58 w A0 l.length l := by
  obtain ⟨ad, c, e, _, hK, hc0⟩ := Kd.C_get h ([] : List Pc) (i : Int) (by omega) (by omega)
  have hc : ∀ j u, c[j]? = some u → w.cell? (ad.add (i * 1 + j)) = some u := hc0
  obtain ⟨A0, c0, rfl, l0, g0⟩ := hK
  have e1 : xs.getD (i : Int).toNat ([] : List Pc) = l := by simp [List.getD_eq_getElem?_getD, hl]
  rw [e1] at l0 g0 hc
  exact ⟨ad, A0, c0, e, by have hq := hc 0 _ rfl; rwa [Nat.mul_one, Nat.add_zero] at hq, l0, g0⟩
theorem flat_succ {R : List (List Pc)} {n : Nat} {r : List Pc} (h : R[n]? = some r) : (R.take (n + 1)).flatten = (R.take n).flatten ++ r := by
  have hn := (List.getElem?_eq_some_iff.1 h).1
  have he := (List.getElem?_eq_some_iff.1 h).2
  rw [List.take_succ_eq_append_getElem hn, List.flatten_append, he]
  simp
theorem flat_le (R : List (List Pc)) (n : Nat) : ((R.take n).flatten).length ≤ R.flatten.length := by
  conv => rhs; rw [← List.take_append_drop n R]
  rw [List.flatten_append, List.length_append]
  omega

set_option maxRecDepth 100000 in
set_option maxHeartbeats 8000000 in
theorem concat_any (A : Option Addr) (c : Nat) (R : List (List Pc)) (w : World) (hR : Kd.C (Kd.slice 58 k58) w A R.length R) (hc : R.length ≤ c) (hk : R.length ≤ 1000000) (hs : R.flatten.length * 16 ≤ 140737488355328) :
    Calls Try.prog 54 #[.slice A R.length c] w fun e w' => ∃ v, e = .returned v ∧ Kd.R k58 58 w' w.heap.size (fun _ => True) v R.flatten ∧ Below w.heap.size w w' := by
  have HM := Sh.mk hR
  have HG := Sh.mk (fun w => grow_any R.flatten.length hs w)
  have HS := Sh.mk hs
  clear hR hs
  obtain ⟨k, hkk⟩ : ∃ k, k = R.length := ⟨_, rfl⟩
  have HK := Sh.mk hkk
  rw [← hkk] at hc hk HM ⊢
  clear hkk
  go_enter Try.func54, Try.ntmps54
  go_wp2
  go_loopw [3, 5, 11] (fun sz sv iv wr => ∃ (n s : Nat), n ≤ k ∧ sz = .int .i64 s ∧ iv = .int .i64 n ∧ Sh (s = ((R.take n).flatten).length) ∧ wr = w) (fun sz sv iv _ => k - (intOf iv).toNat)
  case atStart => exact ⟨0, 0, Nat.zero_le _, rfl, rfl, ⟨by simp⟩, by first | rfl | trivial⟩
  case round =>
    obtain ⟨n, s, hn, rfl, rfl, HN, rfl⟩ := hrel
    by_cases hlt : n < k
    · obtain ⟨l, hr⟩ : ∃ r, R[n]? = some r := ⟨_, List.getElem?_eq_getElem (by have := HK.out; omega)⟩
      obtain ⟨ad, A0, c0, rfl, hcell, -, -⟩ := at_many HM.out n hlt l hr
      have hE := congrArg List.length (flat_succ hr)
      rw [List.length_append, ← HN.out] at hE
      have hsz := flat_le R (n + 1)
      have hss := HS.out
      obtain ⟨m, hm⟩ : ∃ m, m = l.length := ⟨_, rfl⟩
      rw [← hm] at hcell hE
      have HM2 := Sh.mk hE
      have hsm : s + m ≤ 140737488355328 := by omega
      have q1 : IntKind.i64.wrap ((s : Int) + (m : Int)) = ((s + m : Nat) : Int) := by rw [IntKind.wrap_i64]; omega
      have q2 : ¬ (((s + m : Nat) : Int) < 0) := by omega
      have q3 : ¬ ((s : Int) + (m : Int) < 0) := by omega
      clear hsz hss hE hm hr
      go_wp2
      go_roundw
      case measure => simp [intOf]; omega
      case rel => exact ⟨n + 1, s + m, by omega, by go_num, by go_num, ⟨HM2.out.symm⟩, by first | rfl | trivial⟩
    · obtain rfl : n = k := by omega
      have hfull : (R.take n).flatten = R.flatten := by rw [List.take_of_length_le (by rw [HK.out]; exact Nat.le_refl _)]
      have hs0 := HN.out
      rw [hfull] at hs0
      subst hs0
      have HG1 := HG.out wr
      obtain ⟨s, hs⟩ : ∃ s, s = R.flatten.length := ⟨_, rfl⟩
      rw [← hs] at HG1 ⊢
      have HG2 := Sh.mk HG1
      have HS2 := Sh.mk hs
      clear hs HN hfull HG1 HG
      go_wp2_with fail
      (with_reducible refine (HG2.out).mono ?_); rintro e w1 ⟨v0, rfl, hO, hB⟩
      have HO0 := Sh.mk hO
      have HB0 := Sh.mk hB
      clear hO hB
      obtain ⟨w0, hw0⟩ : ∃ x, x = wr := ⟨_, rfl⟩
      subst hw0
      go_wp2
      go_loopw [6, 8, 27] (fun vv sv iv wr => ∃ (i : Nat), i ≤ n ∧ iv = .int .i64 i ∧ Sh (Kd.R k58 58 wr w0.heap.size (fun _ => True) vv ((R.take i).flatten)) ∧ Sh (Below w0.heap.size w0 wr)) (fun vv sv iv _ => n - (intOf iv).toNat)
      case atStart => exact ⟨0, Nat.zero_le _, rfl, ⟨by simpa using HO0.out⟩, HB0⟩
      case round =>
        obtain ⟨i, hi, rfl, HO, HB⟩ := hrel
        by_cases hlt : i < n
        · obtain ⟨l, hr⟩ : ∃ r, R[i]? = some r := ⟨_, List.getElem?_eq_getElem (by have := HK.out; omega)⟩
          obtain ⟨ad, A0, c0, rfl, hcell, hcc, hC⟩ := at_many (Kd.C_below HM.out HB.out) i hlt l hr
          have HE := Sh.mk (flat_succ hr)
          have hL : ((R.take i).flatten.length + l.length) * 16 ≤ 140737488355328 := by
            have h1 := congrArg List.length HE.out
            rw [List.length_append] at h1
            have h2 := flat_le R (i + 1)
            have h3 := HS.out
            omega
          have HL := Sh.mk hL
          have HC := Sh.mk hC
          clear hr hL hC
          go_wp2_with ((with_reducible refine gate_builtin (b := .append) (xs := #[.tmp 31, .tmp 32]) rfl ?_); at_builtin; refine Kd.R_append_rows k58 (w0 := w0) w0.heap.size rfl (.tmp 31) (.tmp 32) 44 58 (.agg #[.int .i64 0, .int .i64 0]) 16 rfl Try.underlying44 infoPc rfl (by decide) (by omega) _ ((R.take i).flatten) l _ _ _ (fun _ => True) (fun _ => False) rfl rfl HO.out HC.out (fun _ _ h => h) (fun _ h => h.elim) (fun _ _ => trivial) HB.out ?aS ?aL ?_; (case aS => exact HB.out.size); (case aL => exact HL.out); intro v1 w2 ho hb hg hat; clear hg hat; rw [← HE.out] at ho; have HO1 := Sh.mk ho; have HB1 := Sh.mk hb; clear ho hb)
          go_roundw
          case measure => simp [intOf]; omega
          case rel => exact ⟨i + 1, by omega, by go_num, HO1, HB1⟩
        · obtain rfl : i = n := by omega
          have hfull : (R.take i).flatten = R.flatten := by rw [List.take_of_length_le (by rw [HK.out]; exact Nat.le_refl _)]
          have HO2 := HO.out
          rw [hfull] at HO2
          have HO3 := Sh.mk HO2
          clear HO2 hfull HO
          go_wp2
          go_ret
          exact ⟨_, rfl, HO3.out, HB.out⟩
end Go.Proofs.Ythbknmblehecaaa
