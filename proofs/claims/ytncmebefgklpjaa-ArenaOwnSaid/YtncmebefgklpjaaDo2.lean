/- do, continued: a slice, a copy. No statement is proved here. -/
import Derived.Test.YtncmebefgklpjaaDo
namespace Go.Proofs.Ytncmebefgklpjaa
set_option linter.unusedVariables false
open Go.RowKit Go.Proofs.YtncmebefgklpjaaW.PrintWords Go.Proofs.YtncmebefgklpjaaW.PrintLast Go.Proofs.YtncmebefgklpjaaW.PrintMore

set_option maxRecDepth 100000 in
set_option maxHeartbeats 4000000 in
theorem do4 (ga gb gm : Nat) (m : List Int) (kind at_ n to_ v : Int) (w : World) (h : Twin w ga gb gm m) (k0 : (kind == 0) = false) (k1 : (kind == 1) = false) (k2 : (kind == 2) = false) (k3 : (kind == 3) = false) :
    Calls Try.prog 19 (doArgs ga gm m.length kind at_ n to_ v) w (DoPost ga gb gm m w) := by
  have hs := h.ar.small
  have HT := Sh.mk h
  unfold doArgs
  by_cases hin : There m.length at_ n
  · have HI := Sh.mk hin
    obtain ⟨h1, h2, h3, h4⟩ := hin
    obtain ⟨l, hl⟩ : ∃ l, l = (m.drop at_.toNat).take n.toNat := ⟨_, rfl⟩
    have hll : l.length = n.toNat := by rw [hl]; simp; omega
    have HSame : Sh (Pr.rickyardref1_SameWords.f (l.length + 1) l l = some true) := ⟨same64_refl l (by omega)⟩
    have HL := Sh.mk hl
    have HLL := Sh.mk hll
    clear h hl hll
    go_enter Try.func19, Try.ntmps19
    go_wp2_with fail
    (with_reducible refine (slice_in ga gb m _ _ _ HT.out.ar HI.out).mono ?_); rintro e w1 ⟨u, rfl, h5, h6⟩
    rw [← HL.out] at h5
    have HT1 : Sh (Twin w1 ga gb gm m) := ⟨HT.out.kp (Kp.of_below h6 []) (by simp) (by simp) (by simp)⟩
    obtain ⟨A1, c1, rfl, hc1, hC1⟩ := Kd.R_reads h5
    have HC1 := Sh.mk hC1
    have H6 := Sh.mk h6
    clear h5 h6 hC1
    go_wp2_with fail
    (with_reducible refine (there_in _ _ _ _ _ _ hs HI.out).mono ?_); rintro e w' ⟨rfl, rfl⟩
    have HN : Sh ((at_ + n).toNat - at_.toNat = l.length) := ⟨by rw [HLL.out]; omega⟩
    have HR : Sh (∀ A' c', (0 < n.toNat → A' = some ⟨gm, at_.toNat, none⟩) → l.length ≤ c' → Calls Try.prog 25 #[.slice A1 l.length c1, .slice A' l.length c'] w1 fun e w' => e = .returned (.bool true) ∧ Drawn0 w1 w') :=
      ⟨fun A' c' hA' hc' => Pr.rickyardref1_SameWords.calls (l.length + 1) A1 c1 l A' c' l true w1 HC1.out hc1 (by rw [HL.out]; exact C_blk HT1.out.ls _ at_.toNat n.toNat hA' (by omega) (by omega)) hc' HSame.out⟩
    have hll := HLL.out
    have hll1 : l.length ≤ n.toNat := by omega
    have hll2 : n.toNat ≤ l.length := by omega
    clear hll
    go_wp2_with fail
    all_goals rw [HN.out]
    all_goals (refine (HR.out _ _ (by first | exact fun _ => rfl | (intro hn; exfalso; omega)) (by omega)).mono ?_)
    all_goals (rintro e w' ⟨rfl, hd⟩)
    all_goals (have HD := Sh.mk hd.below; clear hd)
    all_goals go_wp2
    all_goals go_ret
    all_goals exact ⟨rfl, m, HT1.out.kp (Kp.of_below HD.out []) (by simp) (by simp) (by simp), rfl, Kp.of_below (below_then H6.out H6.out.size HD.out) _⟩
  · have HI := Sh.mk hin
    clear h hin
    go_enter Try.func19, Try.ntmps19
    go_wp2_with fail
    (with_reducible refine (slice_out ga gb m _ _ _ HT.out.ar HI.out).mono ?_); rintro e w1 ⟨u, rfl, h5, h6⟩
    obtain ⟨A1, c1, rfl⟩ := Kd.R_slice h5
    have H6 := Sh.mk h6
    clear h5 h6
    go_wp2_with fail
    (with_reducible refine (there_out _ _ _ _ _ _ hs HI.out).mono ?_); rintro e w' ⟨rfl, rfl⟩
    go_wp2
    go_ret
    exact ⟨rfl, m, HT.out.kp (Kp.of_below H6.out []) (by simp) (by simp) (by simp), rfl, Kp.of_below H6.out _⟩

set_option maxRecDepth 100000 in
set_option maxHeartbeats 4000000 in
theorem do2 (ga gb gm : Nat) (m : List Int) (at_ n to_ v : Int) (w : World) (h : Twin w ga gb gm m) :
    Calls Try.prog 19 (doArgs ga gm m.length 2 at_ n to_ v) w (DoPost ga gb gm m w) := by
  have hs := h.ar.small
  have HT := Sh.mk h
  unfold doArgs
  by_cases hin : There m.length to_ n ∧ There m.length at_ n
  · obtain ⟨hin1, hin2⟩ := hin
    have HI1 := Sh.mk hin1
    have HI2 := Sh.mk hin2
    obtain ⟨h1, h2, h3, h4⟩ := hin1
    obtain ⟨g1, g2, g3, g4⟩ := hin2
    clear h
    go_enter Try.func19, Try.ntmps19
    go_wp2_with fail
    (with_reducible refine (copy_in ga gb m _ _ _ _ HT.out.ar HI1.out HI2.out).mono ?_); rintro e w1 ⟨rfl, h5, h6⟩
    have HLS : Sh (Blk w1 gm 28 (U64s m)) := ⟨HT.out.ls.kp h6 (by have := HT.out.ne; simpa using this)⟩
    have H5 := Sh.mk h5
    have H6 := Sh.mk h6
    clear h5 h6
    go_wp2_with fail
    (with_reducible refine (there_in _ _ _ _ _ _ hs HI2.out).mono ?_); rintro e w' ⟨rfl, rfl⟩
    go_wp2_with fail
    (with_reducible refine (there_in _ _ _ _ _ _ hs HI1.out).mono ?_); rintro e w' ⟨rfl, rfl⟩
    obtain ⟨l, hl⟩ : ∃ l, l = (m.drop at_.toNat).take n.toNat := ⟨_, rfl⟩
    have hll : l.length = n.toNat := by rw [hl]; simp; omega
    have e1 : IntKind.i64.wrap (to_ + n) = to_ + n := by rw [IntKind.wrap_i64]; omega
    have e2 : IntKind.i64.wrap (at_ + n) = at_ + n := by rw [IntKind.wrap_i64]; omega
    have b1 : 0 ≤ to_ + n := by omega
    have b2 : to_ + n ≤ (m.length : Int) := by omega
    have b3 : to_ ≤ max (to_ + n) 0 := by omega
    have b4 : 0 ≤ at_ + n := by omega
    have b5 : at_ + n ≤ (m.length : Int) := by omega
    have b6 : at_ ≤ max (at_ + n) 0 := by omega
    have HRD : Sh (Kd.C (Kd.int .u64) w1 (if m.length = at_.toNat then some ⟨gm, 0, none⟩ else some ⟨gm, at_.toNat, none⟩) ((at_ + n).toNat - at_.toNat) l) := by
      have := C_blk HLS.out (if m.length = at_.toNat then some ⟨gm, 0, none⟩ else some ⟨gm, at_.toNat, none⟩) at_.toNat n.toNat (fun hn => by rw [if_neg (by omega)]) (by omega) (by omega)
      rw [← hl, hll] at this
      rw [show (at_ + n).toNat - at_.toNat = n.toNat from by omega]
      exact ⟨this⟩
    have HLL : Sh (l.length = (to_ + n).toNat - to_.toNat) := ⟨by rw [hll]; omega⟩
    have HL := Sh.mk hl
    have HLN := Sh.mk hll
    clear hl hll
    have hcf : to_.toNat + (l.map (Value.int .u64)).length ≤ (m.map (Value.int .u64)).length := by simp only [List.length_map]; have := HLN.out; omega
    obtain ⟨cur, hcur⟩ : ∃ cur, cur = m.map (Value.int .u64) := ⟨_, rfl⟩
    obtain ⟨cs, hcs⟩ : ∃ cs, cs = l.map (Value.int .u64) := ⟨_, rfl⟩
    rw [← hcur, ← hcs] at hcf
    have HCF := Sh.mk hcf
    have HCUR := Sh.mk hcur
    have HCS := Sh.mk hcs
    clear hcf hcur hcs
    have HIN : Sh (0 ≤ to_ ∧ 0 ≤ n ∧ to_ + n ≤ (m.length : Int)) := ⟨⟨h1, h2, b2⟩⟩
    clear h3 h4 g3 g4
    go_wp2
    go_region_law (first
      | (refine Kd.R_append_rows_step (Kd.int .u64) (w0 := w1) w1.heap.size (by rfl) (.tmp 97) (.tmp 103) 22 28 (.int .u64 0) 8 rfl Try.underlying22 info_u64 rfl (by decide) (by omega) (.slice (some ⟨w1.heap.size, 0, none⟩) 0 0) [] l _ _ _ (fun _ => True) (fun _ => False) rfl rfl ?aO ?aR (fun _ _ h => h) (fun _ h => h.elim) (fun _ _ => trivial) ?aB ?aS ?aL ?_; (case aO => exact ⟨fun _ _ => trivial, [], World.ownsRow_made _ #[] 0 (by simp) (by simp [maxLen]) (by rfl), Reps.none _ _⟩); (case aR => repeat (first | exact HRD.out | apply Kd.C_alloc | apply Kd.C_drewN | apply Kd.C_drew)); (case aB => repeat (first | exact Below.refl _ _ | apply below_alloc | apply below_drew | apply pw_below_drewN)); (case aS => simp); (case aL => have := HLN.out; have := HIN.out; simp only [List.length_nil]; omega); intro v1 w2 ho hb hg hat; clear hg hat; rw [List.nil_append] at ho; obtain ⟨A1, c1, rfl, hc1, hC1⟩ := Kd.R_reads ho; have HC1 := Sh.mk hC1; have HB1 := Sh.mk hb; clear ho hb hC1)
      | (refine step_copy_blk rfl (.tmp 96) (.tmp 104) 22 22 rfl 28 Try.underlying22 (by kernel_rfl) _ A1 _ _ l.length c1 rfl rfl gm to_.toNat cur 28 ?hg cs ?hn ?hpos ?hfit ?h1 ?_; (case hg => rw [HCUR.out]; exact HLS.out.kp (Kp.of_below HB1.out []) (by simp)); (case hn => rw [HCS.out, List.length_map, ← HLL.out]; exact (Nat.min_self _).symm); (case hpos => intro hn; rw [HCS.out, List.length_map] at hn; refine ⟨if_neg (by have := HLN.out; have := HIN.out; omega), ?_⟩; rw [HCS.out]; exact cells_of_C HC1.out hn); (case hfit => exact HCF.out); (case h1 => intro v hv; rw [HCS.out] at hv; obtain ⟨x, _, rfl⟩ := List.mem_map.1 hv; rfl); intro w3 hb3 hk3; have HB3 := Sh.mk hb3; have HK3 := Sh.mk hk3; clear hb3 hk3))
    all_goals go_wp2
    all_goals go_ret
    all_goals refine ⟨rfl, copyM m to_.toNat at_.toNat n.toNat, ⟨?_, ?_, HT.out.ne⟩, copyM_len m _ _ _ (by have := HIN.out; omega) (by have := HLN.out; have := HIN.out; obtain ⟨q1, q2, q3, q4⟩ := HI2.out; omega), ?_⟩
    all_goals first
      | exact H5.out.kp ((Kp.of_below HB1.out [gm]).trans HK3.out) (by have := HT.out.na; simpa using this) (by have := HT.out.ne; simpa using this.symm)
      | (have hq := HB3.out; rw [HCS.out, HCUR.out, splice_map, HL.out] at hq; exact hq)
      | exact (H6.out.mono (by simp)).trans ((Kp.of_below HB1.out _).trans (HK3.out.mono (by simp)))
  · have HI := Sh.mk hin
    clear h hin
    by_cases g : There m.length at_ n
    · have HI2 := Sh.mk g
      have HI1 : Sh (¬ There m.length to_ n) := ⟨fun g2 => HI.out ⟨g2, g⟩⟩
      clear g
      go_enter Try.func19, Try.ntmps19
      go_wp2_with fail
      (with_reducible refine (copy_out ga gb m _ _ _ _ HT.out.ar HI.out).mono ?_); rintro e w' ⟨rfl, rfl⟩
      go_wp2_with fail
      (with_reducible refine (there_in _ _ _ _ _ _ hs HI2.out).mono ?_); rintro e w' ⟨rfl, rfl⟩
      go_wp2_with fail
      (with_reducible refine (there_out _ _ _ _ _ _ hs HI1.out).mono ?_); rintro e w' ⟨rfl, rfl⟩
      go_wp2
      go_ret
      exact ⟨rfl, m, HT.out, rfl, Kp.refl _ _⟩
    · have HI2 := Sh.mk g
      clear g
      go_enter Try.func19, Try.ntmps19
      go_wp2_with fail
      (with_reducible refine (copy_out ga gb m _ _ _ _ HT.out.ar HI.out).mono ?_); rintro e w' ⟨rfl, rfl⟩
      go_wp2_with fail
      (with_reducible refine (there_out _ _ _ _ _ _ hs HI2.out).mono ?_); rintro e w' ⟨rfl, rfl⟩
      go_wp2
      go_ret
      exact ⟨rfl, m, HT.out, rfl, Kp.refl _ _⟩

/-- One call, whatever its kind. -/
theorem do_any (ga gb gm : Nat) (m : List Int) (L : Nat) (hL : m.length = L) (kind at_ n to_ v : Int) (w : World) (h : Twin w ga gb gm m) :
    Calls Try.prog 19 (doArgs ga gm L kind at_ n to_ v) w (DoPost ga gb gm m w) := by
  subst hL
  by_cases k0 : kind = 0
  · subst k0; exact do0 ga gb gm m at_ n to_ v w h
  by_cases k1 : kind = 1
  · subst k1; exact do1 ga gb gm m at_ n to_ v w h
  by_cases k2 : kind = 2
  · subst k2; exact do2 ga gb gm m at_ n to_ v w h
  by_cases k3 : kind = 3
  · subst k3; exact do3 ga gb gm m at_ n to_ v w h
  exact do4 ga gb gm m kind at_ n to_ v w h (by simpa using k0) (by simpa using k1) (by simpa using k2) (by simpa using k3)
/-- The same, its arguments written out. -/
theorem do_call (ga gb gm : Nat) (m : List Int) (L : Nat) (hL : m.length = L) (kind at_ n to_ v : Int) (w : World) (h : Twin w ga gb gm m) :
    Calls Try.prog 19 #[.pointer (some ⟨ga, 0, none⟩), .slice (some ⟨gm, 0, none⟩) L L, .int .i64 kind, .int .i64 at_, .int .i64 n, .int .i64 to_, .int .u64 v] w (DoPost ga gb gm m w) :=
  do_any ga gb gm m L hL kind at_ n to_ v w h
end Go.Proofs.Ytncmebefgklpjaa
