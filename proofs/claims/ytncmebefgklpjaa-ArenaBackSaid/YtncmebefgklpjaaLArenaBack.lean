/- The walk of the statement ArenaBack: a copy there and back leaves the words; what is stored is loaded until something else is stored there. -/
import Derived.Test.YtncmebefgklpjaaDo2
namespace Go.Proofs.Ytncmebefgklpjaa
set_option linter.unusedVariables false
open Go.RowKit Go.Proofs.YtncmebefgklpjaaW.PrintWords Go.Proofs.YtncmebefgklpjaaW.PrintLast Go.Proofs.YtncmebefgklpjaaW.PrintMore
attribute [local go_sem] max2_mx min2_mn max_two min_two

theorem back_take (m : List Int) (f k : Nat) (hm : m.length = 128) (hf : f + k ≤ 64) : (copyM (copyM m (64 + f) f k) f (64 + f) k).take 64 = m.take 64 := by
  have l1 : (copyM m (64 + f) f k).length = 128 := by rw [copyM_len m _ _ _ (by omega) (by omega)]; exact hm
  have l2 : (copyM (copyM m (64 + f) f k) f (64 + f) k).length = 128 := by rw [copyM_len _ _ _ _ (by omega) (by omega)]; exact l1
  apply rd0_ext (by simp [l2, hm])
  intro i hi
  have hi' : i < 64 := by simp at hi; omega
  have ht : ∀ (l : List Int), rd0 (l.take 64) i = rd0 l i := fun l => by
    unfold rd0
    rw [List.getD_eq_getElem?_getD, List.getElem?_take, if_pos hi', List.getD_eq_getElem?_getD]
  rw [ht, ht, copyM_at _ _ _ _ _ (by omega) (by omega) (by omega)]
  by_cases h : f ≤ i ∧ i < f + k
  · rw [if_pos h, copyM_at _ _ _ _ _ (by omega) (by omega) (by omega), if_pos (by omega)]
    congr 1
    omega
  · rw [if_neg h, copyM_at _ _ _ _ _ (by omega) (by omega) (by omega), if_neg (by omega)]

set_option maxRecDepth 100000 in
set_option maxHeartbeats 8000000 in
theorem arenaBack_walk (A0 : Option Addr) (c0 : Nat) (l0 : List Int) (a1 a2 a3 a4 a5 : Int) (w : World) (hr0 : Kd.C (Kd.int .u64) w A0 l0.length l0) (hc0 : l0.length ≤ c0) (hw0 : ∀ x ∈ l0, (Lit.int .u64 x).wf = true) (y0 : l0.length * 8 ≤ 140737488351232)
    (w1 : (Lit.int .u8 a1).wf = true) (w2 : (Lit.int .u8 a2).wf = true) (w3 : (Lit.int .u8 a3).wf = true) (w4 : (Lit.int .u8 a4).wf = true) (w5 : (Lit.int .u64 a5).wf = true) :
    Calls Try.prog 6 #[.slice A0 l0.length c0, .int .u8 a1, .int .u8 a2, .int .u8 a3, .int .u8 a4, .int .u64 a5] w fun e w' => e = .returned (.bool true) ∧ Below w.heap.size w w' := by
  have ub : ∀ {a : Int}, (Lit.int .u8 a).wf = true → 0 ≤ a ∧ a ≤ 255 := fun h => by simpa [Lit.wf, IntKind.min, IntKind.max, IntKind.signed, IntKind.bits] using h
  obtain ⟨b1, b1'⟩ := ub w1
  obtain ⟨b2, b2'⟩ := ub w2
  obtain ⟨b3, b3'⟩ := ub w3
  obtain ⟨b4, b4'⟩ := ub w4
  clear w1 w2 w3 w4 w5 hw0 ub
  have HR := Sh.mk hr0
  have hl : l0.length ≤ 17592186044416 := by omega
  clear hr0 y0
  go_enter Try.func6, Try.ntmps6
  go_wp2_with fail
  (with_reducible refine (laid_any 2 A0 c0 l0 w (by omega) (by omega) HR.out hl).mono ?_); rintro e w1 ⟨ga, gb, gm, rfl, h1, h2, h3, h4, h5, h6, h7⟩
  obtain ⟨m, hm⟩ : ∃ m, m = laidM ((2 : Int).toNat * 64) l0 (min l0.length ((2 : Int).toNat * 64)) := ⟨_, rfl⟩
  rw [← hm] at h1 h2
  have hml : m.length = 128 := by rw [hm, laidM_len]; rfl
  rw [← hm, hml]
  have HT : Sh (Twin w1 ga gb gm m) := ⟨⟨h1, h2, h3⟩⟩
  have H7 := Sh.mk h7
  have HML := Sh.mk hml
  clear h1 h2 h7 hm hml
  go_wp2_with fail
  obtain ⟨f, hf⟩ : ∃ f : Nat, (f : Int) = a1 % 64 := ⟨(a1 % 64).toNat, by omega⟩
  obtain ⟨k, hk⟩ : ∃ k : Nat, (k : Int) = mn (a2 % 65) (64 - a1 % 64) := ⟨(mn (a2 % 65) (64 - a1 % 64)).toNat, by unfold mn; omega⟩
  have hf1 : f + k ≤ 64 := by unfold mn at hk; omega
  rw [← hk, ← hf]
  clear hf hk
  have HT1 : Sh (There m.length (64 + (f : Int)) k) := ⟨by rw [HML.out]; exact ⟨by omega, by omega, by omega, by omega⟩⟩
  have HT2 : Sh (There m.length f k) := ⟨by rw [HML.out]; exact ⟨by omega, by omega, by omega, by omega⟩⟩
  (with_reducible refine (copy_in ga gb m _ _ _ _ HT.out.ar HT1.out HT2.out).mono ?_); rintro e w2 ⟨rfl, h8, h9⟩
  rw [show (64 + (f : Int)).toNat = 64 + f from by omega, Int.toNat_natCast, Int.toNat_natCast] at h8
  have hl1 : (copyM m (64 + f) f k).length = 128 := by rw [copyM_len m _ _ _ (by rw [HML.out]; omega) (by rw [HML.out]; omega), HML.out]
  have HT3 : Sh (There (copyM m (64 + f) f k).length f k) := ⟨by rw [hl1]; exact ⟨by omega, by omega, by omega, by omega⟩⟩
  have HT4 : Sh (There (copyM m (64 + f) f k).length (64 + (f : Int)) k) := ⟨by rw [hl1]; exact ⟨by omega, by omega, by omega, by omega⟩⟩
  have H8 := Sh.mk h8
  have H9 := Sh.mk h9
  have HL1 := Sh.mk hl1
  clear h8 h9 hl1
  go_wp2_with fail
  (with_reducible refine (copy_in ga gb _ _ _ _ _ H8.out HT3.out HT4.out).mono ?_); rintro e w3 ⟨rfl, g1, g2⟩
  rw [show (64 + (f : Int)).toNat = 64 + f from by omega, Int.toNat_natCast, Int.toNat_natCast] at g1
  obtain ⟨m2, hm2⟩ : ∃ m2, m2 = copyM (copyM m (64 + f) f k) f (64 + f) k := ⟨_, rfl⟩
  rw [← hm2] at g1
  have hl2 : m2.length = 128 := by rw [hm2, copyM_len _ _ _ _ (by rw [HL1.out]; omega) (by rw [HL1.out]; omega), HL1.out]
  have htk : (m2.drop (0 : Int).toNat).take (64 : Int).toNat = m.take 64 := by
    have := back_take m f k HML.out hf1
    rw [← hm2] at this
    simpa using this
  have HTK := Sh.mk htk
  have HL2 := Sh.mk hl2
  have HT5 : Sh (There m2.length 0 64) := ⟨by rw [hl2]; exact ⟨by omega, by omega, by omega, by omega⟩⟩
  have G1 := Sh.mk g1
  have HLS : Sh (Blk w3 gm 28 (U64s m)) := ⟨(HT.out.ls.kp H9.out (by have := HT.out.ne; simpa using this)).kp g2 (by have := HT.out.ne; simpa using this)⟩
  have HB3 : Sh (Below w.heap.size w w3) := ⟨H7.out.trans ((H9.out.trans g2).toBelow H7.out.size (by simp; exact h5))⟩
  clear g1 g2 hm2 hl2 htk
  go_wp2_with fail
  (with_reducible refine (slice_in ga gb m2 _ _ _ G1.out HT5.out).mono ?_); rintro e w4 ⟨u, rfl, g3, g4⟩
  rw [HTK.out] at g3
  obtain ⟨A1, c1, rfl, hc1, hC1⟩ := Kd.R_reads g3
  have hl64 : (m.take 64).length = 64 := by have := HML.out; simp; omega
  have HSW : Sh (Calls Try.prog 25 #[.slice A1 64 c1, .slice (some ⟨gm, 0, none⟩) 64 128] w4 fun e w' => e = .returned (.bool true) ∧ Drawn0 w4 w') := by
    have hcb := C_blk (HLS.out.kp (Kp.of_below g4 []) (by simp)) (some ⟨gm, 0, none⟩) 0 64 (fun _ => rfl) (by rw [HML.out]; omega) (by rw [HML.out]; omega)
    rw [List.drop_zero] at hcb
    have := Pr.rickyardref1_SameWords.calls ((m.take 64).length + 1) A1 c1 (m.take 64) (some ⟨gm, 0, none⟩) 128 (m.take 64) true w4 hC1 hc1 hcb (by omega) (same64_refl _ (by omega))
    rw [hl64] at this
    exact ⟨this⟩
  rw [hl64]
  have G4 := Sh.mk g4
  have HA4 : Sh (Ar w4 ga gb m2) := ⟨G1.out.kp (Kp.of_below g4 []) (by simp) (by simp)⟩
  clear g3 g4 hC1 hc1 hl64
  go_wp2_with fail
  (refine HSW.out.mono ?_); rintro e w5 ⟨rfl, hd⟩
  have hd' := hd.below
  have HB5 : Sh (Below w.heap.size w w5) := ⟨below_then (below_then HB3.out HB3.out.size G4.out) (Nat.le_trans HB3.out.size G4.out.size) hd'⟩
  have HA5 : Sh (Ar w5 ga gb m2) := ⟨HA4.out.kp (Kp.of_below hd' []) (by simp) (by simp)⟩
  clear hd hd' HSW
  obtain ⟨x, hx⟩ : ∃ x : Nat, (x : Int) = a3 % 128 := ⟨(a3 % 128).toNat, by omega⟩
  obtain ⟨y, hy⟩ : ∃ y : Nat, (y : Int) = a4 % 128 := ⟨(a4 % 128).toNat, by omega⟩
  have hx1 : x < 128 := by omega
  have hy1 : y < 128 := by omega
  have hx2 : (x : Int) < (m2.length : Int) := by rw [HL2.out]; omega
  have HX := Sh.mk hx
  have HY := Sh.mk hy
  clear hx hy
  go_wp2_with fail
  rw [← HX.out]
  (with_reducible refine (store_in ga gb m2 _ _ _ HA5.out (by omega) hx2).mono ?_); rintro e w6 ⟨rfl, g5, g6⟩
  rw [Int.toNat_natCast] at g5
  have hy2 : (y : Int) < ((m2.set x a5).length : Int) := by rw [List.length_set, HL2.out]; omega
  have G5 := Sh.mk g5
  have G6 := Sh.mk g6
  clear g5 g6
  go_wp2_with fail
  rw [← HY.out]
  (with_reducible refine (store_in ga gb _ _ _ _ G5.out (by omega) hy2).mono ?_); rintro e w7 ⟨rfl, g7, g8⟩
  rw [Int.toNat_natCast] at g7
  have G7 := Sh.mk g7
  have G8 := Sh.mk g8
  clear g7 g8
  have hx3 : (x : Int) < (((m2.set x a5).set y (IntKind.u64.wrap (a5 + 1))).length : Int) := by rw [List.length_set, List.length_set, HL2.out]; omega
  have HB7 : Sh (Below w.heap.size w w7) := ⟨HB5.out.trans ((G6.out.trans G8.out).toBelow HB5.out.size (by simp; exact h5))⟩
  by_cases hxy : x = y
  · subst hxy
    have hv : rd0 ((m2.set x a5).set x (IntKind.u64.wrap (a5 + 1))) x = IntKind.u64.wrap (a5 + 1) := by rw [rd0_set, if_pos ⟨rfl, by rw [List.length_set, HL2.out]; exact hx1⟩]
    have HV := Sh.mk hv
    clear hv
    go_wp2_with fail
    (with_reducible refine (load_in ga gb _ _ _ G7.out (by omega) hx3).mono ?_); rintro e w' ⟨rfl, rfl⟩
    rw [Int.toNat_natCast, HV.out]
    go_wp2_with fail
    (with_reducible refine (awake3 _).mono ?_); rintro e w8 ⟨rfl, h12⟩
    have H12 := Sh.mk h12
    clear h12
    go_wp2
    go_ret
    exact ⟨rfl, below_then HB7.out HB7.out.size H12.out⟩
  · have hv : rd0 ((m2.set x a5).set y (IntKind.u64.wrap (a5 + 1))) x = a5 := by rw [rd0_set, if_neg (fun hh => hxy hh.1.symm), rd0_set, if_pos ⟨rfl, by rw [HL2.out]; exact hx1⟩]
    have HV := Sh.mk hv
    have hne : ((x : Int) != (y : Int)) = true := by rw [bne_iff_ne]; omega
    clear hv
    go_wp2_with fail
    (with_reducible refine (load_in ga gb _ _ _ G7.out (by omega) hx3).mono ?_); rintro e w' ⟨rfl, rfl⟩
    rw [Int.toNat_natCast, HV.out]
    go_wp2_with fail
    (with_reducible refine (awake3 _).mono ?_); rintro e w8 ⟨rfl, h12⟩
    have H12 := Sh.mk h12
    clear h12
    go_wp2
    go_ret
    exact ⟨rfl, below_then HB7.out HB7.out.size H12.out⟩
end Go.Proofs.Ytncmebefgklpjaa
