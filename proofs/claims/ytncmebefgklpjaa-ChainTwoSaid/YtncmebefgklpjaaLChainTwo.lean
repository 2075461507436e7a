/- The walk of the statement ChainTwo: two chains of unlike places do not touch one another. No row is proved here. -/
import Derived.Test.YtncmebefgklpjaaTwoMem
import Derived.Test.YtncmebefgklpjaaTwoState
import Derived.Test.YtncmebefgklpjaaLaw9
import Derived.Test.YtncmebefgklpjaaWalkLaw
import Derived.IntWalk
import Derived.BigQuiet
import Derived.BigRegion
import Derived.Deep.QuietTactic
namespace Go.Proofs.Ytncmebefgklpjaa
set_option linter.unusedVariables false
set_option linter.unusedSimpArgs false
open Go.RowKit Go.Proofs.YtncmebefgklpjaaW.PrintWords Go.Proofs.YtncmebefgklpjaaW.PrintLast Go.Proofs.YtncmebefgklpjaaW.PrintMore

set_option maxRecDepth 100000 in
set_option maxHeartbeats 16000000 in
theorem chainTwo_walk (A0 : Option Addr) (c0 : Nat) (l0 : List Int) (A1 : Option Addr) (c1 : Nat) (tb : List Bool) (w : World) (hr0 : Kd.C (Kd.int .u8) w A0 l0.length l0) (hc0 : l0.length ≤ c0) (hw0 : ∀ x ∈ l0, (Lit.int .u8 x).wf = true) (y0 : l0.length * 1 ≤ 140737488351232)
    (hr1 : Kd.C Kd.bool w A1 tb.length tb) (hc1 : tb.length ≤ c1) :
    Calls Try.prog 11 #[.slice A0 l0.length c0, .slice A1 tb.length c1] w fun e w' => e = .returned (.bool true) ∧ Below w.heap.size w w' := by
  have un : ∀ x ∈ l0, 0 ≤ x ∧ x ≤ 255 := fun x hx => by
    simpa [Lit.wf, IntKind.min, IntKind.max, IntKind.signed, IntKind.bits] using hw0 x hx
  have hl0 : l0.length ≤ 140737488351232 := by omega
  have HR0 := Sh.mk hr0
  have HR1 := Sh.mk hr1
  have HU := Sh.mk un
  clear hr0 hw0 y0 hr1 un
  go_enter Try.func11, Try.ntmps11
  go_wp2_with fail
  (with_reducible refine (new_any 2 w (by omega) (by omega)).mono ?_); rintro e w1 ⟨ga, gb, rfl, ha, hga, hgb, hb⟩
  have HA1 := Sh.mk ha
  have HB1 := Sh.mk hb
  have HG := Sh.mk (And.intro hga hgb)
  have HR0' : Sh (Kd.C (Kd.int .u8) w1 A0 l0.length l0) := ⟨Kd.C_below HR0.out hb⟩
  clear ha hga hgb hb
  go_wp2_with fail
  (with_reducible refine (places_any A0 c0 l0 w1 HR0'.out hc0 HU.out hl0).mono ?_); rintro e w2 ⟨v, l, rfl, g1, g2, g3, g4⟩
  obtain ⟨A, c, rfl, hc, -⟩ := Kd.R_reads g1
  have HN := Sh.mk g2
  have HL : Sh (∀ x ∈ l, 0 ≤ x ∧ x < ((128 : Nat) : Int)) := ⟨g3⟩
  have hll : l.length ≤ 128 := nodup_bound 128 l g2 g3
  have HA2 : Sh (Ar w2 ga gb (List.replicate 128 0)) := ⟨HA1.out.kp (Kp.of_below g4 []) (by simp) (by simp)⟩
  have HP2 : Sh (Kd.F (Kd.int .i64) w2 (fun k => w1.heap.size ≤ k ∧ k < w2.heap.size) A l.length l) := ⟨Kd.R_F (Kd.R_mono (Kd.R_bound g1) (fun k hk => ⟨hk.2.1, hk.2.2.1⟩))⟩
  have HB2 : Sh (Below w.heap.size w w2) := ⟨below_then HB1.out HB1.out.size g4⟩
  have HS : Sh (ga < w1.heap.size ∧ gb < w1.heap.size ∧ w1.heap.size ≤ w2.heap.size) := ⟨⟨HA1.out.st.lt, HA1.out.ws.lt, g4.size⟩⟩
  clear g1 g2 g3 g4
  go_wp2
  have HT3 : Sh (TW w ga gb w2.heap.size (w2.heap.size + 1) (w2.heap.size + 1 + 1) A l (List.replicate 128 0) [] [] 0 0 (.slice none 0 0) (.slice none 0 0) ((w2.alloc (.cells #[.slice none 0 0, .slice none 0 0] 64)).alloc (.cells #[.int .i64 0, .int .i64 0] 65))) := ⟨by
    have hs := HS.out
    have hg := HG.out
    have hb := HB2.out.size
    refine ⟨HA2.out.kp (((Kp.refl [] w2).alloc _).alloc _) (by simp) (by simp), (Blk.new w2 _ _).alloc _, Blk.new_ _ _ _ (by simp), Kd.R_nil _ _ _ _ _, Kd.R_nil _ _ _ _ _, Kd.F_mono (Kd.F_alloc (Kd.F_alloc HP2.out _) _) (fun k hk => by omega), ⟨⟨by omega, by omega, by omega, by omega⟩, ⟨by omega, by omega, by omega, by omega, by omega⟩, ⟨by omega, by omega, by omega, by omega⟩⟩, by simp, below_alloc (below_alloc HB2.out _) _⟩⟩
  have HC3 : Sh (CS l (List.replicate 128 0) [] [] 0 0 0) := ⟨⟨by simp, rfl, rfl, by simp, by simp, by simp, by simp⟩⟩
  generalize (w2.alloc (.cells #[.slice none 0 0, .slice none 0 0] 64)).alloc (.cells #[.int .i64 0, .int .i64 0] 65) = w3 at HT3 ⊢
  generalize w2.heap.size + 1 + 1 = b at HT3
  generalize w2.heap.size + 1 = g8 at HT3 ⊢
  generalize w2.heap.size = g7 at HT3 ⊢
  clear HA1 HB1 HG HR0' HA2 HP2 HB2 HS
  go_loopw [9, 10, 11, 12, 13, 14, 15, 16] (fun vi _ _ _ _ _ _ _ wr => ∃ (i : Nat) (M L0 L1 : List Int) (h0 h1 : Int) (v0 v1 : Value), Sh (i ≤ l.length) ∧ vi = .int .i64 i ∧ Sh (CS l M L0 L1 h0 h1 i) ∧ Sh (TW w ga gb g7 g8 b A l M L0 L1 h0 h1 v0 v1 wr)) (fun vi _ _ _ _ _ _ _ _ => l.length - (intOf vi).toNat)
  case atStart => exact ⟨0, _, [], [], 0, 0, _, _, ⟨Nat.zero_le _⟩, rfl, HC3, HT3⟩
  case round =>
    clear HC3 HT3
    obtain ⟨i, M, L0, L1, h0, h1, v0, v1, HI, rfl, HC, HT⟩ := hrel
    obtain ⟨B0, d0, e0⟩ := Kd.R_slice HT.out.r0
    subst e0
    obtain ⟨B1, d1, e1⟩ := Kd.R_slice HT.out.r1
    subst e1
    by_cases hlt : i < l.length
    · have s1 : decide ((i : Int) < (l.length : Int)) = true := decide_eq_true (by omega)
      have s1' : decide (i < l.length) = true := decide_eq_true hlt
      obtain ⟨ad, ea, hadl, hcell⟩ := C_cell (Kd.F_now HT.out.pl) i hlt
      subst ea
      have HX := HL.out _ (rd0_mem hlt)
      obtain ⟨x, hx⟩ : ∃ x, x = rd0 l i := ⟨_, rfl⟩
      have HXX := Sh.mk hx
      have HXB : Sh (0 ≤ x ∧ x < 128) := ⟨by rw [hx]; exact HX⟩
      have HLT := Sh.mk hlt
      have hi0 := eq_true (show (0 : Int) ≤ (i : Int) by omega)
      have hi1 := eq_true (show (i : Int) < (l.length : Int) by omega)
      have hi2 := eq_true hlt
      have w5_ : IntKind.i64.wrap ((i : Int) + 1) = (i : Int) + 1 := IntWalk.i64_in _ (by have := HI.out; omega)
      clear hcell HX hx hadl hlt
      by_cases ct : i < tb.length
      · have s2 : decide ((i : Int) < (tb.length : Int)) = true := decide_eq_true (by omega)
        have s2' : decide (i < tb.length) = true := decide_eq_true ct
        have hi3 := eq_true (show (i : Int) < (tb.length : Int) by omega)
        have hi4 := eq_true ct
        have HTB : Sh (∀ W, Below w.heap.size w W → ∃ at_, A1 = some at_ ∧ W.cell? (at_.add i) = some (.bool (rdOf false tb (i : Int)))) := ⟨fun W hW => by
          obtain ⟨at_, e1, e2⟩ := Kd.at_bool (Kd.C_below HR1.out hW) (i : Int) (by omega) (by omega)
          exact ⟨at_, e1, by simpa using e2⟩⟩
        obtain ⟨at_, ea1, hbt⟩ := HTB.out wr HT.out.bl
        subst ea1
        clear ct HTB
        cases hbb : rdOf false tb (i : Int) with
        | true =>
          rw [hbb] at hbt
          clear hbb
          have HTd := Sh.mk (HT.out.kp0 (Kp.refl [] wr).drew)
          have q8 : wr.drew.cell? ⟨g8, 1, none⟩ = some (.int .i64 h1) := (HTd.out.b8.cell 1).trans rfl
          obtain ⟨ad9, ea9, -, ql⟩ := C_cell (Kd.F_now HTd.out.pl) i HLT.out
          obtain rfl : ad = ad9 := Option.some.inj ea9
          rw [← HXX.out] at ql
          have HP : Sh (Calls Try.prog 30 #[.pointer (some ⟨ga, 0, none⟩), .int .i64 h1, .int .i64 x] wr.drew fun e w' => e = .returned (.tuple #[.int .i64 (x + 1), .int .i64 0]) ∧ Ar w' ga gb (M.set x.toNat h1) ∧ Kp [gb] wr.drew w') := ⟨by
            have h := push_any ga gb M h1 x wr.drew HTd.out.ar
            rw [pushS_in M h1 x (HC.out.hd1 HL.out) (by have := HXB.out; have := HC.out.len; omega)] at h
            exact h⟩
          have HC6 : Sh (CS l (M.set x.toNat h1) L0 (L1 ++ [x]) h0 (x + 1) (i + 1)) := ⟨by rw [HXX.out]; exact HC.out.push1 HL.out HN.out HLT.out⟩
          go_wp2_with fail
          go_region_with ((go_at_call 30; (with_reducible refine HP.out.mono ?_); rintro e w5 ⟨rfl, a5, k5⟩; have HT5 := Sh.mk (HTd.out.push a5 k5); have q8' : w5.cell? ⟨g8, 1, none⟩ = some (.int .i64 h1) := (HT5.out.b8.cell 1).trans rfl; have q8f := HT5.out.b8.frozen 1; clear a5 k5))
          all_goals (
            clear q8 ql
            go_wp2_with fail
            have HT6 := Sh.mk (HT5.out.hd1 (x + 1))
            generalize w5.setCell ⟨g8, 1, none⟩ (.int .i64 (x + 1)) = w6 at HT6 ⊢
            clear q8' q8f HT5
            have HT6d := Sh.mk (HT6.out.kp0 (Kp.refl [] w6).drew)
            have q7 : w6.drew.cell? ⟨g7, 1, none⟩ = some (.slice B1 L1.length d1) := (HT6d.out.b7.cell 1).trans rfl
            obtain ⟨ad9, ea9, -, ql⟩ := C_cell (Kd.F_now HT6d.out.pl) i HLT.out
            obtain rfl : ad = ad9 := Option.some.inj ea9
            rw [← HXX.out] at ql
            have HT6a := Sh.mk (HT6.out.kp0 ((Kp.refl [] w6).alloc (.cells #[.int .i64 x] 3)))
            have q7b : (w6.alloc (.cells #[.int .i64 x] 3)).cell? ⟨g7, 1, none⟩ = some (.slice B1 L1.length d1) := (HT6a.out.b7.cell 1).trans rfl
            obtain ⟨ad9, ea9, -, qlb⟩ := C_cell (Kd.F_now HT6a.out.pl) i HLT.out
            obtain rfl : ad = ad9 := Option.some.inj ea9
            rw [← HXX.out] at qlb
            clear HT6a
            have hl_ : L1.length ≤ 128 := by have := HC.out.n1; have := HI.out; omega
            go_region_law (first | (refine Kd.R_append_step (Kd.int .i64) (w0 := w6.drew) b (by rfl) (.tmp 62) (.tmp 67) 59 3 (.int .i64 0) 8 rfl Try.underlying59 info_i64 rfl (by decide) (by omega) (.slice B1 L1.length d1) L1 (x : Int) [.int .i64 x] (fun k => b ≤ k ∧ some k ≠ (Value.slice B0 L0.length d0).ownBlock) (fun _ => False) rfl rfl rfl (fun _ hk => hk.elim) ?aF HT6d.out.r1 (Below.refl _ _) HT6d.out.sz ?aL ?_; (case aF => exact fun k hk => ⟨Nat.le_trans HT6d.out.sz hk, fun e => by have := Kd.R_lt HT6d.out.r0 k e.symm; omega⟩); (case aL => omega); intro v9 w7 ho hb hg hat; obtain ⟨N9, hN9⟩ : ∃ N9, N9 = L1 ++ [x] := ⟨_, rfl⟩; rw [← hN9] at ho; have HN9 := Sh.mk hN9; clear hN9; obtain ⟨B9, d9, e9⟩ := Kd.R_slice ho; subst e9; have HA7 := Sh.mk (And.intro ho (And.intro hb (And.intro hg hat))); have q77 : w7.cell? ⟨g7, 1, none⟩ = some (.slice B1 L1.length d1) := (Blk.cell ((hb.block _ HT6d.out.lt.1.2.2.1).trans HT6d.out.b7) 1).trans rfl; have q77f : w7.frozen? ⟨g7, 1, none⟩ = false := Blk.frozen ((hb.block _ HT6d.out.lt.1.2.2.1).trans HT6d.out.b7) 1; clear ho hb hg hat))
            all_goals (
              have HT8 := Sh.mk (HT6d.out.app1 HA7.out.1 HA7.out.2.1 HA7.out.2.2.1 HA7.out.2.2.2)
              generalize w7.setCell ⟨g7, 1, none⟩ (.slice B9 N9.length d9) = w8 at HT8 ⊢
              have HC8 : Sh (CS l (M.set x.toNat h1) L0 N9 h0 (x + 1) (i + 1)) := ⟨by have := HC6.out; rw [← HN9.out] at this; exact this⟩
              clear HA7 q7 ql q7b qlb q77 q77f HT6d HT6 HC6 hl_
              obtain ⟨M8, hM8⟩ : ∃ M8, M8 = M.set x.toNat h1 := ⟨_, rfl⟩
              rw [← hM8] at HT8 HC8
              have c7 : w8.cell? ⟨g7, 0, none⟩ = some (.slice B0 L0.length d0) := (HT8.out.b7.cell 0).trans rfl
              obtain ⟨r3, hr3⟩ : ∃ r3 : Int, r3 = (i : Int) % 3 := ⟨_, rfl⟩
              have t3_ : (i : Int).tmod 3 = r3 := by rw [hr3]; exact Int.tmod_eq_emod_of_nonneg (by omega)
              have t4_ : IntKind.i64.wrap r3 = r3 := IntWalk.i64_in _ (by omega)
              by_cases cp : 0 < L0.length ∧ r3 = 0
              · obtain ⟨cp1, cp2⟩ := cp
                obtain ⟨X, y, hXY⟩ : ∃ X y, L0 = X ++ [y] := ⟨L0.dropLast, L0.getLast (by intro e; rw [e] at cp1; cases cp1), (List.dropLast_concat_getLast _).symm⟩
                have b1 : decide ((L0.length : Int) > 0) = true := decide_eq_true (by omega)
                have b1' : decide (0 < L0.length) = true := decide_eq_true cp1
                have b2 : (r3 == 0) = true := by rw [cp2]; rfl
                obtain ⟨n9, hn9⟩ : ∃ n9 : Int, n9 = (L0.length : Int) - 1 := ⟨_, rfl⟩
                have n9_ : IntKind.i64.wrap ((L0.length : Int) - 1) = n9 := by rw [IntWalk.i64_in _ (by have := HC8.out.n0; have := HI.out; omega)]; exact hn9.symm
                have hXl : L0.length = X.length + 1 := by rw [hXY]; simp
                have hnX : n9.toNat = X.length := by omega
                have hn0 := eq_true (show (0 : Int) ≤ n9 by omega)
                have hn1 := eq_true (show n9 < (L0.length : Int) by omega)
                have c8 : w8.cell? ⟨g8, 0, none⟩ = some (.int .i64 h0) := (HT8.out.b8.cell 0).trans rfl
                have HPC : Sh (popS M8 h0 = (y, rd0 M8 y.toNat, 0) ∧ CS l M8 X N9 (rd0 M8 y.toNat) (x + 1) (i + 1)) := ⟨by have h := HC8.out; rw [hXY] at h; exact h.pop0 HL.out⟩
                obtain ⟨r, hr⟩ : ∃ r, r = rd0 M8 y.toNat := ⟨_, rfl⟩
                rw [← hr] at HPC
                have HPOP : Sh (Calls Try.prog 28 #[.pointer (some ⟨ga, 0, none⟩), .int .i64 h0] w8 fun e w' => e = .returned (.tuple #[.int .i64 y, .int .i64 r, .int .i64 0]) ∧ w8 = w') := ⟨by
                  have hb := HC8.out.hd0 HL.out
                  have h := pop_any ga gb M8 h0 w8 HT8.out.ar (by omega) (by have := HC8.out.len; omega)
                  rw [HPC.out.1] at h
                  exact h⟩
                obtain ⟨ado, eao, -, cy⟩ := C_cell (Kd.R_reads' HT8.out.r0).2.2 X.length (by omega)
                subst eao
                rw [show rd0 L0 X.length = y by rw [hXY]; unfold rd0; simp, ← hnX] at cy
                have hcO := (Kd.R_reads' HT8.out.r0).2.1
                obtain ⟨i28, hi28, hz1, hz2, hz3⟩ : ∃ i28, Try.prog.info? 3 = some i28 ∧ i28.zero = some (.int .i64 0) ∧ i28.size = 1 ∧ i28.bytes = 8 := by
                  obtain ⟨q, h1, h2⟩ := Option.map_eq_some_iff.1 info_i64
                  simp only [Prod.mk.injEq] at h2
                  exact ⟨q, h1, h2.1, h2.2.1, h2.2.2⟩
                have cut1 : ∀ W : World, (Instr.slice 59 (.slice (some ado) L0.length d0) none (some (.int .i64 n9)) none).run Try.prog W = .ok (.slice (some ado) X.length d0) W := by
                  have := cut_to (P := Try.prog) 59 3 .i64 Try.underlying59 hi28 (some ado) L0.length d0 n9 (by omega) (by omega) hcO
                  rw [hnX] at this
                  exact this
                have HT9 := Sh.mk (((show TW w ga gb g7 g8 b (some ad) l M8 (X ++ [y]) N9 h0 (x + 1) (.slice (some ado) (X ++ [y]).length d0) (.slice B9 N9.length d9) w8 by have h := HT8.out; rw [hXY] at h; exact h).pop0 r).kp0 (Kp.refl [] _).drew)
                have HB8 := Sh.mk (And.intro HT8.out.b7 (And.intro HT8.out.b8 HT8.out.lt.2.1.1))
                have c7d : w8.drew.cell? ⟨g7, 0, none⟩ = some (.slice (some ado) L0.length d0) := c7
                have c8d : w8.drew.cell? ⟨g8, 0, none⟩ = some (.int .i64 h0) := c8
                have f8d : w8.drew.frozen? ⟨g8, 0, none⟩ = false := HB8.out.2.1.frozen 0
                have c7e : (w8.setCell ⟨g8, 0, none⟩ (.int .i64 r)).cell? ⟨g7, 0, none⟩ = some (.slice (some ado) L0.length d0) := ((Blk.far HB8.out.1 (by show g7 ≠ g8; exact HB8.out.2.2) _).cell 0).trans rfl
                have f7e : (w8.setCell ⟨g8, 0, none⟩ (.int .i64 r)).frozen? ⟨g7, 0, none⟩ = false := (Blk.far HB8.out.1 (by show g7 ≠ g8; exact HB8.out.2.2) _).frozen 0
                clear cp1 cp2 hr3 hM8 hXl hr hcO hi28 hz1 hz2 hz3 hnX hn9
                have HXY := Sh.mk hXY
                clear hXY
                go_wp2_with fail
                (with_reducible refine HPOP.out.mono ?_); rintro e w' ⟨rfl, rfl⟩
                go_wp2_with fail
                skip
                go_region
                all_goals (
                  go_wp2
                  go_roundw
                  case rel => exact ⟨i + 1, M8, X, N9, r, x + 1, _, _, ⟨by have := HLT.out; omega⟩, by go_num, ⟨HPC.out.2⟩, HT9⟩
                  case measure => have := HLT.out; simp [intOf]; omega)
              · have b3 : (decide ((L0.length : Int) > 0) && (r3 == 0)) = false := by
                  by_cases h9 : 0 < L0.length
                  · rw [decide_eq_true (by omega), Bool.true_and, beq_eq_false_iff_ne]
                    exact fun e => cp ⟨h9, e⟩
                  · rw [decide_eq_false (by omega), Bool.false_and]
                clear hr3 hM8
                by_cases h9 : 0 < L0.length
                · have b1 : decide ((L0.length : Int) > 0) = true := decide_eq_true (by omega)
                  have b1' : decide (0 < L0.length) = true := decide_eq_true h9
                  have b2 : (r3 == 0) = false := by rw [beq_eq_false_iff_ne]; exact fun e => cp ⟨h9, e⟩
                  clear cp h9 b3
                  go_wp2
                  go_roundw
                  case rel => exact ⟨i + 1, M8, L0, N9, h0, x + 1, _, _, ⟨by have := HLT.out; omega⟩, by go_num, HC8, HT8⟩
                  case measure => have := HLT.out; simp [intOf]; omega
                · have b1 : decide ((L0.length : Int) > 0) = false := decide_eq_false (by omega)
                  have b1' : decide (0 < L0.length) = false := decide_eq_false h9
                  clear cp h9 b3
                  go_wp2
                  go_roundw
                  case rel => exact ⟨i + 1, M8, L0, N9, h0, x + 1, _, _, ⟨by have := HLT.out; omega⟩, by go_num, HC8, HT8⟩
                  case measure => have := HLT.out; simp [intOf]; omega))
        | false =>
          rw [hbb] at hbt
          clear hbb
          have HTd := Sh.mk (HT.out.kp0 (Kp.refl [] wr).drew)
          have q8 : wr.drew.cell? ⟨g8, 0, none⟩ = some (.int .i64 h0) := (HTd.out.b8.cell 0).trans rfl
          obtain ⟨ad9, ea9, -, ql⟩ := C_cell (Kd.F_now HTd.out.pl) i HLT.out
          obtain rfl : ad = ad9 := Option.some.inj ea9
          rw [← HXX.out] at ql
          have HP : Sh (Calls Try.prog 30 #[.pointer (some ⟨ga, 0, none⟩), .int .i64 h0, .int .i64 x] wr.drew fun e w' => e = .returned (.tuple #[.int .i64 (x + 1), .int .i64 0]) ∧ Ar w' ga gb (M.set x.toNat h0) ∧ Kp [gb] wr.drew w') := ⟨by
            have h := push_any ga gb M h0 x wr.drew HTd.out.ar
            rw [pushS_in M h0 x (HC.out.hd0 HL.out) (by have := HXB.out; have := HC.out.len; omega)] at h
            exact h⟩
          have HC6 : Sh (CS l (M.set x.toNat h0) (L0 ++ [x]) L1 (x + 1) h1 (i + 1)) := ⟨by rw [HXX.out]; exact HC.out.push0 HL.out HN.out HLT.out⟩
          go_wp2_with fail
          go_region_with ((go_at_call 30; (with_reducible refine HP.out.mono ?_); rintro e w5 ⟨rfl, a5, k5⟩; have HT5 := Sh.mk (HTd.out.push a5 k5); have q8' : w5.cell? ⟨g8, 0, none⟩ = some (.int .i64 h0) := (HT5.out.b8.cell 0).trans rfl; have q8f := HT5.out.b8.frozen 0; clear a5 k5))
          all_goals (
            clear q8 ql
            go_wp2_with fail
            have HT6 := Sh.mk (HT5.out.hd0 (x + 1))
            generalize w5.setCell ⟨g8, 0, none⟩ (.int .i64 (x + 1)) = w6 at HT6 ⊢
            clear q8' q8f HT5
            have HT6d := Sh.mk (HT6.out.kp0 (Kp.refl [] w6).drew)
            have q7 : w6.drew.cell? ⟨g7, 0, none⟩ = some (.slice B0 L0.length d0) := (HT6d.out.b7.cell 0).trans rfl
            obtain ⟨ad9, ea9, -, ql⟩ := C_cell (Kd.F_now HT6d.out.pl) i HLT.out
            obtain rfl : ad = ad9 := Option.some.inj ea9
            rw [← HXX.out] at ql
            have HT6a := Sh.mk (HT6.out.kp0 ((Kp.refl [] w6).alloc (.cells #[.int .i64 x] 3)))
            have q7b : (w6.alloc (.cells #[.int .i64 x] 3)).cell? ⟨g7, 0, none⟩ = some (.slice B0 L0.length d0) := (HT6a.out.b7.cell 0).trans rfl
            obtain ⟨ad9, ea9, -, qlb⟩ := C_cell (Kd.F_now HT6a.out.pl) i HLT.out
            obtain rfl : ad = ad9 := Option.some.inj ea9
            rw [← HXX.out] at qlb
            clear HT6a
            have hl_ : L0.length ≤ 128 := by have := HC.out.n0; have := HI.out; omega
            go_region_law (first | (refine Kd.R_append_step (Kd.int .i64) (w0 := w6.drew) b (by rfl) (.tmp 62) (.tmp 67) 59 3 (.int .i64 0) 8 rfl Try.underlying59 info_i64 rfl (by decide) (by omega) (.slice B0 L0.length d0) L0 (x : Int) [.int .i64 x] (fun k => b ≤ k ∧ some k ≠ (Value.slice B1 L1.length d1).ownBlock) (fun _ => False) rfl rfl rfl (fun _ hk => hk.elim) ?aF HT6d.out.r0 (Below.refl _ _) HT6d.out.sz ?aL ?_; (case aF => exact fun k hk => ⟨Nat.le_trans HT6d.out.sz hk, fun e => by have := Kd.R_lt HT6d.out.r1 k e.symm; omega⟩); (case aL => omega); intro v9 w7 ho hb hg hat; obtain ⟨N9, hN9⟩ : ∃ N9, N9 = L0 ++ [x] := ⟨_, rfl⟩; rw [← hN9] at ho; have HN9 := Sh.mk hN9; clear hN9; obtain ⟨B9, d9, e9⟩ := Kd.R_slice ho; subst e9; have HA7 := Sh.mk (And.intro ho (And.intro hb (And.intro hg hat))); have q77 : w7.cell? ⟨g7, 0, none⟩ = some (.slice B0 L0.length d0) := (Blk.cell ((hb.block _ HT6d.out.lt.1.2.2.1).trans HT6d.out.b7) 0).trans rfl; have q77f : w7.frozen? ⟨g7, 0, none⟩ = false := Blk.frozen ((hb.block _ HT6d.out.lt.1.2.2.1).trans HT6d.out.b7) 0; clear ho hb hg hat))
            all_goals (
              have HT8 := Sh.mk (HT6d.out.app0 HA7.out.1 HA7.out.2.1 HA7.out.2.2.1 HA7.out.2.2.2)
              generalize w7.setCell ⟨g7, 0, none⟩ (.slice B9 N9.length d9) = w8 at HT8 ⊢
              have HC8 : Sh (CS l (M.set x.toNat h0) N9 L1 (x + 1) h1 (i + 1)) := ⟨by have := HC6.out; rw [← HN9.out] at this; exact this⟩
              clear HA7 q7 ql q7b qlb q77 q77f HT6d HT6 HC6 hl_
              obtain ⟨M8, hM8⟩ : ∃ M8, M8 = M.set x.toNat h0 := ⟨_, rfl⟩
              rw [← hM8] at HT8 HC8
              have c7 : w8.cell? ⟨g7, 1, none⟩ = some (.slice B1 L1.length d1) := (HT8.out.b7.cell 1).trans rfl
              obtain ⟨r3, hr3⟩ : ∃ r3 : Int, r3 = (i : Int) % 3 := ⟨_, rfl⟩
              have t3_ : (i : Int).tmod 3 = r3 := by rw [hr3]; exact Int.tmod_eq_emod_of_nonneg (by omega)
              have t4_ : IntKind.i64.wrap r3 = r3 := IntWalk.i64_in _ (by omega)
              by_cases cp : 0 < L1.length ∧ r3 = 0
              · obtain ⟨cp1, cp2⟩ := cp
                obtain ⟨X, y, hXY⟩ : ∃ X y, L1 = X ++ [y] := ⟨L1.dropLast, L1.getLast (by intro e; rw [e] at cp1; cases cp1), (List.dropLast_concat_getLast _).symm⟩
                have b1 : decide ((L1.length : Int) > 0) = true := decide_eq_true (by omega)
                have b1' : decide (0 < L1.length) = true := decide_eq_true cp1
                have b2 : (r3 == 0) = true := by rw [cp2]; rfl
                obtain ⟨n9, hn9⟩ : ∃ n9 : Int, n9 = (L1.length : Int) - 1 := ⟨_, rfl⟩
                have n9_ : IntKind.i64.wrap ((L1.length : Int) - 1) = n9 := by rw [IntWalk.i64_in _ (by have := HC8.out.n1; have := HI.out; omega)]; exact hn9.symm
                have hXl : L1.length = X.length + 1 := by rw [hXY]; simp
                have hnX : n9.toNat = X.length := by omega
                have hn0 := eq_true (show (0 : Int) ≤ n9 by omega)
                have hn1 := eq_true (show n9 < (L1.length : Int) by omega)
                have c8 : w8.cell? ⟨g8, 1, none⟩ = some (.int .i64 h1) := (HT8.out.b8.cell 1).trans rfl
                have HPC : Sh (popS M8 h1 = (y, rd0 M8 y.toNat, 0) ∧ CS l M8 N9 X (x + 1) (rd0 M8 y.toNat) (i + 1)) := ⟨by have h := HC8.out; rw [hXY] at h; exact h.pop1 HL.out⟩
                obtain ⟨r, hr⟩ : ∃ r, r = rd0 M8 y.toNat := ⟨_, rfl⟩
                rw [← hr] at HPC
                have HPOP : Sh (Calls Try.prog 28 #[.pointer (some ⟨ga, 0, none⟩), .int .i64 h1] w8 fun e w' => e = .returned (.tuple #[.int .i64 y, .int .i64 r, .int .i64 0]) ∧ w8 = w') := ⟨by
                  have hb := HC8.out.hd1 HL.out
                  have h := pop_any ga gb M8 h1 w8 HT8.out.ar (by omega) (by have := HC8.out.len; omega)
                  rw [HPC.out.1] at h
                  exact h⟩
                obtain ⟨ado, eao, -, cy⟩ := C_cell (Kd.R_reads' HT8.out.r1).2.2 X.length (by omega)
                subst eao
                rw [show rd0 L1 X.length = y by rw [hXY]; unfold rd0; simp, ← hnX] at cy
                have hcO := (Kd.R_reads' HT8.out.r1).2.1
                obtain ⟨i28, hi28, hz1, hz2, hz3⟩ : ∃ i28, Try.prog.info? 3 = some i28 ∧ i28.zero = some (.int .i64 0) ∧ i28.size = 1 ∧ i28.bytes = 8 := by
                  obtain ⟨q, h1, h2⟩ := Option.map_eq_some_iff.1 info_i64
                  simp only [Prod.mk.injEq] at h2
                  exact ⟨q, h1, h2.1, h2.2.1, h2.2.2⟩
                have cut1 : ∀ W : World, (Instr.slice 59 (.slice (some ado) L1.length d1) none (some (.int .i64 n9)) none).run Try.prog W = .ok (.slice (some ado) X.length d1) W := by
                  have := cut_to (P := Try.prog) 59 3 .i64 Try.underlying59 hi28 (some ado) L1.length d1 n9 (by omega) (by omega) hcO
                  rw [hnX] at this
                  exact this
                have HT9 := Sh.mk (((show TW w ga gb g7 g8 b (some ad) l M8 N9 (X ++ [y]) (x + 1) h1 (.slice B9 N9.length d9) (.slice (some ado) (X ++ [y]).length d1) w8 by have h := HT8.out; rw [hXY] at h; exact h).pop1 r).kp0 (Kp.refl [] _).drew)
                have HB8 := Sh.mk (And.intro HT8.out.b7 (And.intro HT8.out.b8 HT8.out.lt.2.1.1))
                have c7d : w8.drew.cell? ⟨g7, 1, none⟩ = some (.slice (some ado) L1.length d1) := c7
                have c8d : w8.drew.cell? ⟨g8, 1, none⟩ = some (.int .i64 h1) := c8
                have f8d : w8.drew.frozen? ⟨g8, 1, none⟩ = false := HB8.out.2.1.frozen 1
                have c7e : (w8.setCell ⟨g8, 1, none⟩ (.int .i64 r)).cell? ⟨g7, 1, none⟩ = some (.slice (some ado) L1.length d1) := ((Blk.far HB8.out.1 (by show g7 ≠ g8; exact HB8.out.2.2) _).cell 1).trans rfl
                have f7e : (w8.setCell ⟨g8, 1, none⟩ (.int .i64 r)).frozen? ⟨g7, 1, none⟩ = false := (Blk.far HB8.out.1 (by show g7 ≠ g8; exact HB8.out.2.2) _).frozen 1
                clear cp1 cp2 hr3 hM8 hXl hr hcO hi28 hz1 hz2 hz3 hnX hn9
                have HXY := Sh.mk hXY
                clear hXY
                go_wp2_with fail
                (with_reducible refine HPOP.out.mono ?_); rintro e w' ⟨rfl, rfl⟩
                go_wp2_with fail
                skip
                go_region
                all_goals (
                  go_wp2
                  go_roundw
                  case rel => exact ⟨i + 1, M8, N9, X, x + 1, r, _, _, ⟨by have := HLT.out; omega⟩, by go_num, ⟨HPC.out.2⟩, HT9⟩
                  case measure => have := HLT.out; simp [intOf]; omega)
              · have b3 : (decide ((L1.length : Int) > 0) && (r3 == 0)) = false := by
                  by_cases h9 : 0 < L1.length
                  · rw [decide_eq_true (by omega), Bool.true_and, beq_eq_false_iff_ne]
                    exact fun e => cp ⟨h9, e⟩
                  · rw [decide_eq_false (by omega), Bool.false_and]
                clear hr3 hM8
                by_cases h9 : 0 < L1.length
                · have b1 : decide ((L1.length : Int) > 0) = true := decide_eq_true (by omega)
                  have b1' : decide (0 < L1.length) = true := decide_eq_true h9
                  have b2 : (r3 == 0) = false := by rw [beq_eq_false_iff_ne]; exact fun e => cp ⟨h9, e⟩
                  clear cp h9 b3
                  go_wp2
                  go_roundw
                  case rel => exact ⟨i + 1, M8, N9, L1, x + 1, h1, _, _, ⟨by have := HLT.out; omega⟩, by go_num, HC8, HT8⟩
                  case measure => have := HLT.out; simp [intOf]; omega
                · have b1 : decide ((L1.length : Int) > 0) = false := decide_eq_false (by omega)
                  have b1' : decide (0 < L1.length) = false := decide_eq_false h9
                  clear cp h9 b3
                  go_wp2
                  go_roundw
                  case rel => exact ⟨i + 1, M8, N9, L1, x + 1, h1, _, _, ⟨by have := HLT.out; omega⟩, by go_num, HC8, HT8⟩
                  case measure => have := HLT.out; simp [intOf]; omega))
      · have s2 : decide ((i : Int) < (tb.length : Int)) = false := decide_eq_false (by omega)
        have s2' : decide (i < tb.length) = false := decide_eq_false ct
        clear ct
        have HTd := Sh.mk (HT.out.kp0 (Kp.refl [] wr).drew)
        have q8 : wr.drew.cell? ⟨g8, 0, none⟩ = some (.int .i64 h0) := (HTd.out.b8.cell 0).trans rfl
        obtain ⟨ad9, ea9, -, ql⟩ := C_cell (Kd.F_now HTd.out.pl) i HLT.out
        obtain rfl : ad = ad9 := Option.some.inj ea9
        rw [← HXX.out] at ql
        have HP : Sh (Calls Try.prog 30 #[.pointer (some ⟨ga, 0, none⟩), .int .i64 h0, .int .i64 x] wr.drew fun e w' => e = .returned (.tuple #[.int .i64 (x + 1), .int .i64 0]) ∧ Ar w' ga gb (M.set x.toNat h0) ∧ Kp [gb] wr.drew w') := ⟨by
          have h := push_any ga gb M h0 x wr.drew HTd.out.ar
          rw [pushS_in M h0 x (HC.out.hd0 HL.out) (by have := HXB.out; have := HC.out.len; omega)] at h
          exact h⟩
        have HC6 : Sh (CS l (M.set x.toNat h0) (L0 ++ [x]) L1 (x + 1) h1 (i + 1)) := ⟨by rw [HXX.out]; exact HC.out.push0 HL.out HN.out HLT.out⟩
        go_wp2_with fail
        go_region_with ((go_at_call 30; (with_reducible refine HP.out.mono ?_); rintro e w5 ⟨rfl, a5, k5⟩; have HT5 := Sh.mk (HTd.out.push a5 k5); have q8' : w5.cell? ⟨g8, 0, none⟩ = some (.int .i64 h0) := (HT5.out.b8.cell 0).trans rfl; have q8f := HT5.out.b8.frozen 0; clear a5 k5))
        all_goals (
          clear q8 ql
          go_wp2_with fail
          have HT6 := Sh.mk (HT5.out.hd0 (x + 1))
          generalize w5.setCell ⟨g8, 0, none⟩ (.int .i64 (x + 1)) = w6 at HT6 ⊢
          clear q8' q8f HT5
          have HT6d := Sh.mk (HT6.out.kp0 (Kp.refl [] w6).drew)
          have q7 : w6.drew.cell? ⟨g7, 0, none⟩ = some (.slice B0 L0.length d0) := (HT6d.out.b7.cell 0).trans rfl
          obtain ⟨ad9, ea9, -, ql⟩ := C_cell (Kd.F_now HT6d.out.pl) i HLT.out
          obtain rfl : ad = ad9 := Option.some.inj ea9
          rw [← HXX.out] at ql
          have HT6a := Sh.mk (HT6.out.kp0 ((Kp.refl [] w6).alloc (.cells #[.int .i64 x] 3)))
          have q7b : (w6.alloc (.cells #[.int .i64 x] 3)).cell? ⟨g7, 0, none⟩ = some (.slice B0 L0.length d0) := (HT6a.out.b7.cell 0).trans rfl
          obtain ⟨ad9, ea9, -, qlb⟩ := C_cell (Kd.F_now HT6a.out.pl) i HLT.out
          obtain rfl : ad = ad9 := Option.some.inj ea9
          rw [← HXX.out] at qlb
          clear HT6a
          have hl_ : L0.length ≤ 128 := by have := HC.out.n0; have := HI.out; omega
          go_region_law (first | (refine Kd.R_append_step (Kd.int .i64) (w0 := w6.drew) b (by rfl) (.tmp 62) (.tmp 67) 59 3 (.int .i64 0) 8 rfl Try.underlying59 info_i64 rfl (by decide) (by omega) (.slice B0 L0.length d0) L0 (x : Int) [.int .i64 x] (fun k => b ≤ k ∧ some k ≠ (Value.slice B1 L1.length d1).ownBlock) (fun _ => False) rfl rfl rfl (fun _ hk => hk.elim) ?aF HT6d.out.r0 (Below.refl _ _) HT6d.out.sz ?aL ?_; (case aF => exact fun k hk => ⟨Nat.le_trans HT6d.out.sz hk, fun e => by have := Kd.R_lt HT6d.out.r1 k e.symm; omega⟩); (case aL => omega); intro v9 w7 ho hb hg hat; obtain ⟨N9, hN9⟩ : ∃ N9, N9 = L0 ++ [x] := ⟨_, rfl⟩; rw [← hN9] at ho; have HN9 := Sh.mk hN9; clear hN9; obtain ⟨B9, d9, e9⟩ := Kd.R_slice ho; subst e9; have HA7 := Sh.mk (And.intro ho (And.intro hb (And.intro hg hat))); have q77 : w7.cell? ⟨g7, 0, none⟩ = some (.slice B0 L0.length d0) := (Blk.cell ((hb.block _ HT6d.out.lt.1.2.2.1).trans HT6d.out.b7) 0).trans rfl; have q77f : w7.frozen? ⟨g7, 0, none⟩ = false := Blk.frozen ((hb.block _ HT6d.out.lt.1.2.2.1).trans HT6d.out.b7) 0; clear ho hb hg hat))
          all_goals (
            have HT8 := Sh.mk (HT6d.out.app0 HA7.out.1 HA7.out.2.1 HA7.out.2.2.1 HA7.out.2.2.2)
            generalize w7.setCell ⟨g7, 0, none⟩ (.slice B9 N9.length d9) = w8 at HT8 ⊢
            have HC8 : Sh (CS l (M.set x.toNat h0) N9 L1 (x + 1) h1 (i + 1)) := ⟨by have := HC6.out; rw [← HN9.out] at this; exact this⟩
            clear HA7 q7 ql q7b qlb q77 q77f HT6d HT6 HC6 hl_
            obtain ⟨M8, hM8⟩ : ∃ M8, M8 = M.set x.toNat h0 := ⟨_, rfl⟩
            rw [← hM8] at HT8 HC8
            have c7 : w8.cell? ⟨g7, 1, none⟩ = some (.slice B1 L1.length d1) := (HT8.out.b7.cell 1).trans rfl
            obtain ⟨r3, hr3⟩ : ∃ r3 : Int, r3 = (i : Int) % 3 := ⟨_, rfl⟩
            have t3_ : (i : Int).tmod 3 = r3 := by rw [hr3]; exact Int.tmod_eq_emod_of_nonneg (by omega)
            have t4_ : IntKind.i64.wrap r3 = r3 := IntWalk.i64_in _ (by omega)
            by_cases cp : 0 < L1.length ∧ r3 = 0
            · obtain ⟨cp1, cp2⟩ := cp
              obtain ⟨X, y, hXY⟩ : ∃ X y, L1 = X ++ [y] := ⟨L1.dropLast, L1.getLast (by intro e; rw [e] at cp1; cases cp1), (List.dropLast_concat_getLast _).symm⟩
              have b1 : decide ((L1.length : Int) > 0) = true := decide_eq_true (by omega)
              have b1' : decide (0 < L1.length) = true := decide_eq_true cp1
              have b2 : (r3 == 0) = true := by rw [cp2]; rfl
              obtain ⟨n9, hn9⟩ : ∃ n9 : Int, n9 = (L1.length : Int) - 1 := ⟨_, rfl⟩
              have n9_ : IntKind.i64.wrap ((L1.length : Int) - 1) = n9 := by rw [IntWalk.i64_in _ (by have := HC8.out.n1; have := HI.out; omega)]; exact hn9.symm
              have hXl : L1.length = X.length + 1 := by rw [hXY]; simp
              have hnX : n9.toNat = X.length := by omega
              have hn0 := eq_true (show (0 : Int) ≤ n9 by omega)
              have hn1 := eq_true (show n9 < (L1.length : Int) by omega)
              have c8 : w8.cell? ⟨g8, 1, none⟩ = some (.int .i64 h1) := (HT8.out.b8.cell 1).trans rfl
              have HPC : Sh (popS M8 h1 = (y, rd0 M8 y.toNat, 0) ∧ CS l M8 N9 X (x + 1) (rd0 M8 y.toNat) (i + 1)) := ⟨by have h := HC8.out; rw [hXY] at h; exact h.pop1 HL.out⟩
              obtain ⟨r, hr⟩ : ∃ r, r = rd0 M8 y.toNat := ⟨_, rfl⟩
              rw [← hr] at HPC
              have HPOP : Sh (Calls Try.prog 28 #[.pointer (some ⟨ga, 0, none⟩), .int .i64 h1] w8 fun e w' => e = .returned (.tuple #[.int .i64 y, .int .i64 r, .int .i64 0]) ∧ w8 = w') := ⟨by
                have hb := HC8.out.hd1 HL.out
                have h := pop_any ga gb M8 h1 w8 HT8.out.ar (by omega) (by have := HC8.out.len; omega)
                rw [HPC.out.1] at h
                exact h⟩
              obtain ⟨ado, eao, -, cy⟩ := C_cell (Kd.R_reads' HT8.out.r1).2.2 X.length (by omega)
              subst eao
              rw [show rd0 L1 X.length = y by rw [hXY]; unfold rd0; simp, ← hnX] at cy
              have hcO := (Kd.R_reads' HT8.out.r1).2.1
              obtain ⟨i28, hi28, hz1, hz2, hz3⟩ : ∃ i28, Try.prog.info? 3 = some i28 ∧ i28.zero = some (.int .i64 0) ∧ i28.size = 1 ∧ i28.bytes = 8 := by
                obtain ⟨q, h1, h2⟩ := Option.map_eq_some_iff.1 info_i64
                simp only [Prod.mk.injEq] at h2
                exact ⟨q, h1, h2.1, h2.2.1, h2.2.2⟩
              have cut1 : ∀ W : World, (Instr.slice 59 (.slice (some ado) L1.length d1) none (some (.int .i64 n9)) none).run Try.prog W = .ok (.slice (some ado) X.length d1) W := by
                have := cut_to (P := Try.prog) 59 3 .i64 Try.underlying59 hi28 (some ado) L1.length d1 n9 (by omega) (by omega) hcO
                rw [hnX] at this
                exact this
              have HT9 := Sh.mk (((show TW w ga gb g7 g8 b (some ad) l M8 N9 (X ++ [y]) (x + 1) h1 (.slice B9 N9.length d9) (.slice (some ado) (X ++ [y]).length d1) w8 by have h := HT8.out; rw [hXY] at h; exact h).pop1 r).kp0 (Kp.refl [] _).drew)
              have HB8 := Sh.mk (And.intro HT8.out.b7 (And.intro HT8.out.b8 HT8.out.lt.2.1.1))
              have c7d : w8.drew.cell? ⟨g7, 1, none⟩ = some (.slice (some ado) L1.length d1) := c7
              have c8d : w8.drew.cell? ⟨g8, 1, none⟩ = some (.int .i64 h1) := c8
              have f8d : w8.drew.frozen? ⟨g8, 1, none⟩ = false := HB8.out.2.1.frozen 1
              have c7e : (w8.setCell ⟨g8, 1, none⟩ (.int .i64 r)).cell? ⟨g7, 1, none⟩ = some (.slice (some ado) L1.length d1) := ((Blk.far HB8.out.1 (by show g7 ≠ g8; exact HB8.out.2.2) _).cell 1).trans rfl
              have f7e : (w8.setCell ⟨g8, 1, none⟩ (.int .i64 r)).frozen? ⟨g7, 1, none⟩ = false := (Blk.far HB8.out.1 (by show g7 ≠ g8; exact HB8.out.2.2) _).frozen 1
              clear cp1 cp2 hr3 hM8 hXl hr hcO hi28 hz1 hz2 hz3 hnX hn9
              have HXY := Sh.mk hXY
              clear hXY
              go_wp2_with fail
              (with_reducible refine HPOP.out.mono ?_); rintro e w' ⟨rfl, rfl⟩
              go_wp2_with fail
              skip
              go_region
              all_goals (
                go_wp2
                go_roundw
                case rel => exact ⟨i + 1, M8, N9, X, x + 1, r, _, _, ⟨by have := HLT.out; omega⟩, by go_num, ⟨HPC.out.2⟩, HT9⟩
                case measure => have := HLT.out; simp [intOf]; omega)
            · have b3 : (decide ((L1.length : Int) > 0) && (r3 == 0)) = false := by
                by_cases h9 : 0 < L1.length
                · rw [decide_eq_true (by omega), Bool.true_and, beq_eq_false_iff_ne]
                  exact fun e => cp ⟨h9, e⟩
                · rw [decide_eq_false (by omega), Bool.false_and]
              clear hr3 hM8
              by_cases h9 : 0 < L1.length
              · have b1 : decide ((L1.length : Int) > 0) = true := decide_eq_true (by omega)
                have b1' : decide (0 < L1.length) = true := decide_eq_true h9
                have b2 : (r3 == 0) = false := by rw [beq_eq_false_iff_ne]; exact fun e => cp ⟨h9, e⟩
                clear cp h9 b3
                go_wp2
                go_roundw
                case rel => exact ⟨i + 1, M8, N9, L1, x + 1, h1, _, _, ⟨by have := HLT.out; omega⟩, by go_num, HC8, HT8⟩
                case measure => have := HLT.out; simp [intOf]; omega
              · have b1 : decide ((L1.length : Int) > 0) = false := decide_eq_false (by omega)
                have b1' : decide (0 < L1.length) = false := decide_eq_false h9
                clear cp h9 b3
                go_wp2
                go_roundw
                case rel => exact ⟨i + 1, M8, N9, L1, x + 1, h1, _, _, ⟨by have := HLT.out; omega⟩, by go_num, HC8, HT8⟩
                case measure => have := HLT.out; simp [intOf]; omega))
    · have hi : i = l.length := by have := HI.out; omega
      subst hi
      have s1 : decide ((l.length : Int) < (l.length : Int)) = false := decide_eq_false (by omega)
      have s1' : decide (l.length < l.length) = false := decide_eq_false (by omega)
      clear hlt
      go_wp2
      go_loopw [17, 18, 19, 20] (fun z _ _ _ wr => ∃ k : Nat, k ≤ 2 ∧ z = .int .i64 k ∧ Sh (TW w ga gb g7 g8 b A l M L0 L1 h0 h1 (.slice B0 L0.length d0) (.slice B1 L1.length d1) wr)) (fun z _ _ _ _ => 2 - (intOf z).toNat)
      case atStart => exact ⟨0, by omega, rfl, HT⟩
      case round =>
        clear HT s1 s1'
        obtain ⟨k, hk, rfl, HT⟩ := hrel
        match k, hk with
        | 0, _ =>
          have c8 : wr.cell? ⟨g8, 0, none⟩ = some (.int .i64 h0) := (HT.out.b8.cell 0).trans rfl
          have HW : Sh (Calls Try.prog 35 #[.pointer (some ⟨ga, 0, none⟩), .int .i64 h0, .int .i64 200] wr (IsRowI L0.reverse 0 wr)) := ⟨by
            have h := walk_any ga gb M h0 200 wr HT.out.ar (by omega)
            rw [HC.out.walk0 HL.out (by omega)] at h
            exact h⟩
          go_wp2_with fail
          (with_reducible refine HW.out.mono ?_); rintro e w5 ⟨v5, rfl, g1, g2⟩
          obtain ⟨A5, c5, rfl, hc5, hC5⟩ := Kd.R_reads g1
          rw [List.length_reverse] at hC5
          have hlr : L0.reverse.length = L0.length := List.length_reverse
          rw [hlr]
          have HC5 := Sh.mk hC5
          have HT5 := Sh.mk (HT.out.kp0 (Kp.of_below g2 []))
          have c7 : w5.cell? ⟨g7, 0, none⟩ = some (.slice B0 L0.length d0) := (HT5.out.b7.cell 0).trans rfl
          have hl_ : L0.length ≤ 128 := by have := HC.out.n0; omega
          clear g1 g2 hC5 hlr c8
          go_wp2
          go_loopw [20] (fun j wr => ∃ q : Nat, q ≤ L0.length ∧ j = .int .i64 q ∧ Sh (Kp [] w5 wr)) (fun j _ => L0.length - (intOf j).toNat)
          case atStart => exact ⟨0, Nat.zero_le _, rfl, ⟨Kp.refl _ _⟩⟩
          case round =>
            clear c7
            obtain ⟨q, hq, rfl, HK⟩ := hrel
            have HTr := Sh.mk (HT5.out.kp0 HK.out)
            by_cases hlt : q < L0.length
            · obtain ⟨ad1, ea1, -, hcell⟩ := C_cell (Kd.C_below HC5.out HK.out.below) q hlt
              obtain ⟨ad2, ea2, -, hcell2⟩ := C_cell (Kd.R_reads' HTr.out.r0).2.2 (L0.length - 1 - q) (by omega)
              subst ea1
              subst ea2
              rw [rd0_reverse L0 q hlt] at hcell
              have c7 : wr.cell? ⟨g7, 0, none⟩ = some (.slice (some ad2) L0.length d0) := (HTr.out.b7.cell 0).trans rfl
              obtain ⟨x, hx⟩ : ∃ x, x = rd0 L0 (L0.length - 1 - q) := ⟨_, rfl⟩
              rw [← hx] at hcell hcell2
              obtain ⟨z, hz⟩ : ∃ z : Int, z = (L0.length : Int) - 1 - (q : Int) := ⟨_, rfl⟩
              have hz1 : z.toNat = L0.length - 1 - q := by omega
              rw [← hz1] at hcell2
              have hz0 : 0 ≤ z := by omega
              have hz2 : z < (L0.length : Int) := by omega
              have hk2 : (q : Int) < (L0.length : Int) := by omega
              have hs1' : IntKind.i64.wrap ((L0.length : Int) - 1) = (L0.length : Int) - 1 := by rw [IntKind.wrap_i64]; omega
              have hs2' : IntKind.i64.wrap ((L0.length : Int) - 1 - (q : Int)) = z := by rw [IntKind.wrap_i64]; omega
              clear hx hz hz1
              go_wp2
              go_quiet (fail)
              go_wp2
              go_roundw
              case rel => exact ⟨q + 1, by omega, by go_num, ⟨HK.out.drewN _⟩⟩
              case measure => simp [intOf]; omega
            · obtain rfl : q = L0.length := by omega
              clear hlt
              go_wp2
              go_roundw
              case rel => exact ⟨1, by omega, by go_num, HTr⟩
              case measure => simp [intOf]
        | 1, _ =>
          have c8 : wr.cell? ⟨g8, 1, none⟩ = some (.int .i64 h1) := (HT.out.b8.cell 1).trans rfl
          have HW : Sh (Calls Try.prog 35 #[.pointer (some ⟨ga, 0, none⟩), .int .i64 h1, .int .i64 200] wr (IsRowI L1.reverse 0 wr)) := ⟨by
            have h := walk_any ga gb M h1 200 wr HT.out.ar (by omega)
            rw [HC.out.walk1 HL.out (by omega)] at h
            exact h⟩
          go_wp2_with fail
          (with_reducible refine HW.out.mono ?_); rintro e w5 ⟨v5, rfl, g1, g2⟩
          obtain ⟨A5, c5, rfl, hc5, hC5⟩ := Kd.R_reads g1
          rw [List.length_reverse] at hC5
          have hlr : L1.reverse.length = L1.length := List.length_reverse
          rw [hlr]
          have HC5 := Sh.mk hC5
          have HT5 := Sh.mk (HT.out.kp0 (Kp.of_below g2 []))
          have c7 : w5.cell? ⟨g7, 1, none⟩ = some (.slice B1 L1.length d1) := (HT5.out.b7.cell 1).trans rfl
          have hl_ : L1.length ≤ 128 := by have := HC.out.n1; omega
          clear g1 g2 hC5 hlr c8
          go_wp2
          go_loopw [20] (fun j wr => ∃ q : Nat, q ≤ L1.length ∧ j = .int .i64 q ∧ Sh (Kp [] w5 wr)) (fun j _ => L1.length - (intOf j).toNat)
          case atStart => exact ⟨0, Nat.zero_le _, rfl, ⟨Kp.refl _ _⟩⟩
          case round =>
            clear c7
            obtain ⟨q, hq, rfl, HK⟩ := hrel
            have HTr := Sh.mk (HT5.out.kp0 HK.out)
            by_cases hlt : q < L1.length
            · obtain ⟨ad1, ea1, -, hcell⟩ := C_cell (Kd.C_below HC5.out HK.out.below) q hlt
              obtain ⟨ad2, ea2, -, hcell2⟩ := C_cell (Kd.R_reads' HTr.out.r1).2.2 (L1.length - 1 - q) (by omega)
              subst ea1
              subst ea2
              rw [rd0_reverse L1 q hlt] at hcell
              have c7 : wr.cell? ⟨g7, 1, none⟩ = some (.slice (some ad2) L1.length d1) := (HTr.out.b7.cell 1).trans rfl
              obtain ⟨x, hx⟩ : ∃ x, x = rd0 L1 (L1.length - 1 - q) := ⟨_, rfl⟩
              rw [← hx] at hcell hcell2
              obtain ⟨z, hz⟩ : ∃ z : Int, z = (L1.length : Int) - 1 - (q : Int) := ⟨_, rfl⟩
              have hz1 : z.toNat = L1.length - 1 - q := by omega
              rw [← hz1] at hcell2
              have hz0 : 0 ≤ z := by omega
              have hz2 : z < (L1.length : Int) := by omega
              have hk2 : (q : Int) < (L1.length : Int) := by omega
              have hs1' : IntKind.i64.wrap ((L1.length : Int) - 1) = (L1.length : Int) - 1 := by rw [IntKind.wrap_i64]; omega
              have hs2' : IntKind.i64.wrap ((L1.length : Int) - 1 - (q : Int)) = z := by rw [IntKind.wrap_i64]; omega
              clear hx hz hz1
              go_wp2
              go_quiet (fail)
              go_wp2
              go_roundw
              case rel => exact ⟨q + 1, by omega, by go_num, ⟨HK.out.drewN _⟩⟩
              case measure => simp [intOf]; omega
            · obtain rfl : q = L1.length := by omega
              clear hlt
              go_wp2
              go_roundw
              case rel => exact ⟨2, by omega, by go_num, HTr⟩
              case measure => simp [intOf]
        | 2, _ =>
          go_wp2_with fail
          (with_reducible refine (awake9 _).mono ?_); rintro e w8 ⟨rfl, g1⟩
          have K8 := Sh.mk (below_then HT.out.bl HT.out.bl.size g1)
          clear g1
          go_wp2
          go_ret
          exact ⟨rfl, K8.out⟩
end Go.Proofs.Ytncmebefgklpjaa
