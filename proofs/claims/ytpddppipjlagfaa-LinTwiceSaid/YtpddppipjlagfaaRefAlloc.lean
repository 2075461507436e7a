/- The document's model: the contract of Alloc. No statement is proved here. -/
import Derived.Test.YtpddppipjlagfaaRefModel
namespace Go.Proofs.Ytpddppipjlagfaa
set_option linter.unusedVariables false
set_option linter.unusedSimpArgs false
open Go.RowKit Go.Proofs.YtpddppipjlagfaaW.PrintWords Go.Proofs.YtpddppipjlagfaaW.PrintLast Go.Proofs.YtpddppipjlagfaaW.PrintMore Pr Go.Proofs.Ytpddppipjlagfaa.Pure

/-- A boxed model, and a result's cells, in a world that the call has made. -/
structure RA (w : World) (m : Int) (A : Option Addr) (n c : Nat) (W : World) : Prop where
  b3 : W.heap[w.heap.size]? = some (.cells #[.int .i64 m, .slice A n c] 43 (0, 0))
  b6 : W.heap[w.heap.size + 1]? = some (.cells #[.int .i64 0, .slice none 0 0] 43 (0, 0))
  bl : Below w.heap.size w W
theorem RA.new (w : World) (m : Int) (A : Option Addr) (n c : Nat) : RA w m A n c ((w.alloc (.cells #[.int .i64 m, .slice A n c] 43)).alloc (.cells #[.int .i64 0, .slice none 0 0] 43)) where
  b3 := blk_alloc (blk_new w _) _
  b6 := by have h := blk_new (w.alloc (.cells #[.int .i64 m, .slice A n c] 43)) (.cells #[.int .i64 0, .slice none 0 0] 43); simpa using h
  bl := below_alloc (below_alloc (Below.refl _ _) _) _
theorem RA.draw {w : World} {m : Int} {A : Option Addr} {n c : Nat} {W W' : World} (h : RA w m A n c W) (hd : ∃ q, W' = W.drewN q) : RA w m A n c W' := by
  obtain ⟨q, rfl⟩ := hd
  exact ⟨h.b3, h.b6, pw_below_drewN h.bl _⟩
theorem RA.below {w : World} {m : Int} {A : Option Addr} {n c : Nat} {W W' : World} (h : RA w m A n c W) (hd : Below W.heap.size W W') : RA w m A n c W' :=
  ⟨blk_below h.b3 hd, blk_below h.b6 hd, below_step h.bl hd⟩

theorem cell_put {w : World} {g : Nat} {t : TypeId} {cs : Array Value} (h : w.heap[g]? = some (.cells cs t (0, 0))) (i : Nat) (hi : i < cs.size) (v : Value) : (w.setCell ⟨g, i, none⟩ v).cell? ⟨g, i, none⟩ = some v := by
  rw [blk_cell (blk_set h i v) i]
  simp [hi]
theorem RA.p0 {w : World} {m : Int} {A : Option Addr} {n c : Nat} {W : World} (h : RA w m A n c W) (x : Value) : (W.setCell ⟨w.heap.size + 1, 0, none⟩ x).cell? ⟨w.heap.size + 1, 0, none⟩ = some x := cell_put h.b6 0 (by simp) x
theorem RA.p1 {w : World} {m : Int} {A : Option Addr} {n c : Nat} {W : World} (h : RA w m A n c W) (x y : Value) : ((W.setCell ⟨w.heap.size + 1, 0, none⟩ x).setCell ⟨w.heap.size + 1, 1, none⟩ y).cell? ⟨w.heap.size + 1, 1, none⟩ = some y := cell_put (blk_set h.b6 0 x) 1 (by simp) y
def RAllocPost (m : Int) (l : List Lv) (n a : Int) (w : World) (e : Ending) (w' : World) : Prop := ∃ v, e = .returned (.tuple #[.agg #[.int .i64 (rallocG m l n a).1, v], .bool (rallocG m l n a).2.2]) ∧ Kd.R k59 59 w' w.heap.size (fun _ => True) v (rallocG m l n a).2.1 ∧ Below w.heap.size w w'
theorem lastL_drop (t : Int) (l : List Lv) (i q : Nat) (x : Lv) (h : l[i]? = some x) : lastL t (l.drop i) i q = lastL t (l.drop (i + 1)) (i + 1) (if x.f0 < t then i + 1 else q) := by
  obtain ⟨h1, h2⟩ := List.getElem?_eq_some_iff.1 h
  rw [List.drop_eq_getElem_cons h1, h2, lastL]
theorem any_take (p : Lv → Bool) (l : List Lv) (i : Nat) (x : Lv) (h : l[i]? = some x) : (l.take (i + 1)).any p = ((l.take i).any p || p x) := by
  obtain ⟨h1, h2⟩ := List.getElem?_eq_some_iff.1 h
  rw [List.take_succ_eq_append_getElem h1, List.any_append, h2]
  simp
set_option maxRecDepth 100000 in
set_option maxHeartbeats 4000000 in
theorem ralloc_any (m : Int) (A : Option Addr) (c : Nat) (l : List Lv) (n a : Int) (w : World) (hr : Kd.C k59 w A l.length l) (hc : l.length ≤ c) (hl : l.length ≤ 1000) :
    Calls Try.prog 39 #[.agg #[.int .i64 m, .slice A l.length c], .int .i64 n, .int .i64 a] w (RAllocPost m l n a w) := by
  have hu := Try.underlying59
  have hu2 := Try.underlying43
  have HR := Sh.mk hr
  have HA0 := RA.new w m A l.length c
  obtain ⟨cc, ok, hcr⟩ : ∃ cc ok, clsR n = (cc, ok) := ⟨_, _, rfl⟩
  have HC := Sh.mk hcr
  have HQ : ∀ w, Sh (Calls Try.prog 40 #[.int .i64 n] w fun e w' => e = .returned (.tuple #[.int .i64 cc, .bool ok]) ∧ ∃ m, w' = w.drewN m) := fun w => ⟨by have h := class_q n w; rw [hcr] at h; exact h⟩
  clear hr hcr
  go_enter Try.func39, Try.ntmps39
  go_upto_region 2 with (first | (go_at_call 40; ((with_reducible refine (HQ _).out.mono ?_); rintro e w2 ⟨rfl, hd⟩; have HA := HA0.draw hd; clear hd)))
  clear HA0
  have hc3 : w2.cell? ⟨w.heap.size, 0, none⟩ = some (.int .i64 m) := (blk_cell HA.b3 0).trans rfl
  go_cut [42] (fun v42 wc => v42 = .bool (argBad m n a) ∧ RA w m A l.length c wc)
  case first =>
    cases ok with
    | false =>
      have HE : Sh (argBad m n a = true) := ⟨by
        have h := HC.out
        unfold clsR at h
        unfold argBad
        split at h
        · cases h
        · next c1 => simp [c1]⟩
      go_quiet (fail)
      try go_wp2
      go_meet
      exact ⟨by rw [HE.out], HA.draw ⟨_, rfl⟩⟩
    | true =>
      have h1 : nOk n ∧ cc = cls n := by
        have h := HC.out
        unfold clsR at h
        split at h
        · next c1 => cases h; exact ⟨c1, rfl⟩
        · cases h
      obtain ⟨c1, rfl⟩ := h1
      have b1 : decide (nOk n) = true := decide_eq_true c1
      by_cases c2 : a < 0
      · have HE : Sh (argBad m n a = true) := ⟨by unfold argBad; simp [c2]⟩
        have b2 : decide (a < 0) = true := decide_eq_true c2
        clear c1 b1
        go_quiet (fail)
        try go_wp2
        go_meet
        exact ⟨by rw [HE.out], HA.draw ⟨_, rfl⟩⟩
      · have b2 : decide (a < 0) = false := decide_eq_false c2
        have c2' : 0 ≤ a := by omega
        have em : a.tmod 32 = a % 32 := Int.tmod_eq_emod_of_nonneg c2'
        by_cases c3 : a % 32 = 0
        · have b3 : (a % 32 != 0) = false := by simp [c3]
          have b3t : (a.tmod 32 != 0) = false := by rw [em]; simp [c3]
          by_cases c4 : a > m
          · have HE : Sh (argBad m n a = true) := ⟨by unfold argBad; simp [c4]⟩
            have b4 : decide (m < a) = true := decide_eq_true c4
            clear c1 b1 em c2 c3
            go_quiet (fail)
            try go_wp2
            go_meet
            exact ⟨by rw [HE.out], HA.draw ⟨_, rfl⟩⟩
          · have HE : Sh (argBad m n a = decide (wrap64 (m - a) < wd (cls n))) := ⟨by unfold argBad; rw [b1, b2, em, decide_eq_false (show ¬ a % 32 ≠ 0 by simpa using c3), decide_eq_false c4]; rfl⟩
            have b4 : decide (m < a) = false := decide_eq_false c4
            clear c1 b1 em c2 c3
            go_quiet ((go_at_call 49; exact Calls.quiet_of (words_q _ _)))
            try go_wp2
            go_meet
            exact ⟨by rw [HE.out], HA.draw ⟨_, rfl⟩⟩
        · have HE : Sh (argBad m n a = true) := ⟨by unfold argBad; rw [em]; simp [c3]⟩
          have b3 : (a % 32 != 0) = true := by simpa using c3
          have b3t : (a.tmod 32 != 0) = true := by rw [em]; simpa using c3
          clear c1 b1 em c2 c3
          go_quiet (fail)
          try go_wp2
          go_meet
          exact ⟨by rw [HE.out], HA.draw ⟨_, rfl⟩⟩
  case rest =>
    obtain ⟨rfl, HA⟩ := hcut
    clear hc3
    have hc3 : wc.cell? ⟨w.heap.size, 0, none⟩ = some (.int .i64 m) := (blk_cell HA.b3 0).trans rfl
    have hc3' : wc.cell? ⟨w.heap.size, 1, none⟩ = some (.slice A l.length c) := (blk_cell HA.b3 1).trans rfl
    have hc60 : wc.cell? ⟨w.heap.size + 1, 0, none⟩ = some (.int .i64 0) := (blk_cell HA.b6 0).trans rfl
    have hc61 : wc.cell? ⟨w.heap.size + 1, 1, none⟩ = some (.slice none 0 0) := (blk_cell HA.b6 1).trans rfl
    have hf60 : wc.frozen? ⟨w.heap.size + 1, 0, none⟩ = false := blk_frozen HA.b6 0
    have hf61 : wc.frozen? ⟨w.heap.size + 1, 1, none⟩ = false := blk_frozen HA.b6 1
    cases hbad : argBad m n a with
    | true =>
      have HE : Sh (rallocG m l n a = (0, [], false)) := ⟨by unfold rallocG; rw [if_pos (Or.inl hbad)]⟩
      clear hbad
      go_wp2
      refine bodyPost_ret (v := .tuple #[.agg #[.int .i64 0, .slice none 0 0], .bool false]) (by simp [HA.p0, HA.p1, results, Try.results39, go_sem]) rfl ?_
      unfold RAllocPost
      rw [HE.out]
      exact ⟨_, rfl, Kd.R_nil _ _ _ _ _, below_set (below_set HA.bl (by omega)) (by omega)⟩
    | false =>
      have h1 : cc = cls n := by
        have h := HC.out
        unfold clsR at h
        split at h
        · cases h; rfl
        · next c1 => exfalso; unfold argBad at hbad; simp [c1] at hbad
      subst h1
      have HX := Sh.mk hbad
      clear hbad
      go_wp2
      go_loopw [10, 11] (fun vq vi wr => ∃ i q : Nat, i ≤ l.length ∧ q ≤ i ∧ vq = .int .i64 q ∧ vi = .int .i64 i ∧ Sh ((l.take i).any (liveOver ⟨a, cls n, -1⟩) = false) ∧ Sh (lastL a l 0 0 = lastL a (l.drop i) i q) ∧ RA w m A l.length c wr) (fun _ vi _ => l.length - (intOf vi).toNat)
      case atStart => exact ⟨0, 0, Nat.zero_le _, Nat.le_refl _, rfl, rfl, ⟨by simp⟩, ⟨by simp⟩, HA⟩
      case round =>
        clear hc3 hc3' hc60 hc61 hf60 hf61 HA
        obtain ⟨i, q, hi, hq, rfl, rfl, HV, HL, HA⟩ := hrel
        have hc3 : wr.cell? ⟨w.heap.size, 0, none⟩ = some (.int .i64 m) := (blk_cell HA.b3 0).trans rfl
        have hc3' : wr.cell? ⟨w.heap.size, 1, none⟩ = some (.slice A l.length c) := (blk_cell HA.b3 1).trans rfl
        have hc60 : wr.cell? ⟨w.heap.size + 1, 0, none⟩ = some (.int .i64 0) := (blk_cell HA.b6 0).trans rfl
        have hc61 : wr.cell? ⟨w.heap.size + 1, 1, none⟩ = some (.slice none 0 0) := (blk_cell HA.b6 1).trans rfl
        have hf60 : wr.frozen? ⟨w.heap.size + 1, 0, none⟩ = false := blk_frozen HA.b6 0
        have hf61 : wr.frozen? ⟨w.heap.size + 1, 1, none⟩ = false := blk_frozen HA.b6 1
        by_cases hlt : i < l.length
        · obtain ⟨ad, rfl, hx0, hx1, hx2⟩ := at_T59 (Kd.C_below HR.out HA.bl) (i : Int) (by omega) (by omega)
          obtain ⟨x, hx⟩ : ∃ x, x = rd_T59 l (i : Int) := ⟨_, rfl⟩
          rw [← hx] at hx0 hx1 hx2
          rw [Int.toNat_natCast] at hx0 hx1 hx2
          have hxx : l[i]? = some x := by
            rw [hx, rd_T59, Int.toNat_natCast, List.getD_eq_getElem?_getD, List.getElem?_eq_getElem hlt]
            rfl
          clear hx
          have HT := Sh.mk (any_take (liveOver ⟨a, cls n, -1⟩) l i x hxx)
          have HD := Sh.mk (lastL_drop a l i q x hxx)
          have HM : Sh (x ∈ l) := ⟨List.mem_of_getElem? hxx⟩
          clear hxx
          cases ho : overS x.f0 (wd x.f1) a (wd (cls n)) with
          | true =>
            have HV2 : ∀ W, Sh (Calls Try.prog 50 #[.int .i64 x.f0, .int .i64 (wd x.f1), .int .i64 a, .int .i64 (wd (cls n))] W fun e w' => e = .returned (.bool true) ∧ ∃ m, w' = W.drewN m) := fun W => ⟨by have h := over_q x.f0 (wd x.f1) a (wd (cls n)) W; rw [ho] at h; exact h⟩
            have HO : Sh (rallocG m l n a = (0, [], false)) := ⟨by
              unfold rallocG
              rw [if_pos (Or.inr (List.any_eq_true.2 ⟨x, HM.out, by unfold liveOver; rw [overS_symm]; exact ho⟩))]⟩
            clear ho
            go_wp2
            go_quiet (first | (go_at_call 49; exact Calls.quiet_of (words_q _ _)) | (go_at_call 50; exact Calls.quiet_of (HV2 _).out))
            go_wp2
            refine bodyPost_ret (v := .tuple #[.agg #[.int .i64 0, .slice none 0 0], .bool false]) (by simp [(HA.draw ⟨nq, rfl⟩).p0, (HA.draw ⟨nq, rfl⟩).p1, results, Try.results39, go_sem]) rfl ?_
            unfold RAllocPost
            rw [HO.out]
            exact ⟨_, rfl, Kd.R_nil _ _ _ _ _, below_set (below_set (HA.draw ⟨_, rfl⟩).bl (by omega)) (by omega)⟩
          | false =>
            have HV2 : ∀ W, Sh (Calls Try.prog 50 #[.int .i64 x.f0, .int .i64 (wd x.f1), .int .i64 a, .int .i64 (wd (cls n))] W fun e w' => e = .returned (.bool false) ∧ ∃ m, w' = W.drewN m) := fun W => ⟨by have h := over_q x.f0 (wd x.f1) a (wd (cls n)) W; rw [ho] at h; exact h⟩
            have HO : Sh (liveOver ⟨a, cls n, -1⟩ x = false) := ⟨by unfold liveOver; rw [overS_symm]; exact ho⟩
            clear ho
            by_cases hb : x.f0 < a
            · have hb1 : decide (x.f0 < a) = true := decide_eq_true hb
              go_wp2
              go_quiet (first | (go_at_call 49; exact Calls.quiet_of (words_q _ _)) | (go_at_call 50; exact Calls.quiet_of (HV2 _).out))
              go_wp2
              go_roundw
              case rel => exact ⟨i + 1, i + 1, by omega, by omega, by go_num, by go_num, ⟨by rw [HT.out, HV.out, HO.out]; rfl⟩, ⟨by rw [HL.out, HD.out, if_pos hb]⟩, HA.draw ⟨_, rfl⟩⟩
              case measure => simp [intOf]; omega
            · have hb1 : decide (x.f0 < a) = false := decide_eq_false hb
              go_wp2
              go_quiet (first | (go_at_call 49; exact Calls.quiet_of (words_q _ _)) | (go_at_call 50; exact Calls.quiet_of (HV2 _).out))
              go_wp2
              go_roundw
              case rel => exact ⟨i + 1, q, by omega, by omega, rfl, by go_num, ⟨by rw [HT.out, HV.out, HO.out]; rfl⟩, ⟨by rw [HL.out, HD.out, if_neg (by omega)]⟩, HA.draw ⟨_, rfl⟩⟩
              case measure => simp [intOf]; omega
        · obtain rfl : i = l.length := by omega
          obtain ⟨L, hL⟩ : ∃ L, L = l.take q ++ [⟨a, cls n, -1⟩] ++ l.drop q := ⟨_, rfl⟩
          have HE : Sh (rallocG m l n a = (m, L, true)) := ⟨by
            rw [hL]
            have h1 := HL.out
            rw [List.drop_length, lastL] at h1
            have h2 := HV.out
            rw [List.take_length] at h2
            unfold rallocG
            rw [if_neg (by rw [HX.out, h2]; simp), h1]⟩
          have HP : ∀ W, Below wr.heap.size wr W → Sh (Calls Try.prog 51 #[.slice A l.length c, .int .i64 (q : Int), .agg #[.int .i64 a, .int .i64 (cls n), .int .i64 (-1)]] W fun e w' => ∃ v, e = .returned v ∧ Kd.R k59 59 w' W.heap.size (fun _ => True) v L ∧ Below W.heap.size W w') := fun W hW => ⟨hL ▸ put_q A c l q a (cls n) (-1) W (Kd.C_below (Kd.C_below HR.out HA.bl) hW) hc hq hl⟩
          clear hL
          go_wp2
          go_region_held3 (fun W => W.cell? ⟨w.heap.size, 0, none⟩ = some (.int .i64 m) ∧ W.cell? ⟨w.heap.size, 1, none⟩ = some (.slice A l.length c)) (first | exact ⟨(blk_cell (blk_far (blk_far HA2.b3 (by simp) _) (by simp) _) 0).trans rfl, (blk_cell (blk_far (blk_far HA2.b3 (by simp) _) (by simp) _) 1).trans rfl⟩ | exact ⟨(blk_cell (blk_far HA2.b3 (by simp) _) 0).trans rfl, (blk_cell (blk_far HA2.b3 (by simp) _) 1).trans rfl⟩ | exact ⟨(blk_cell HA2.b3 0).trans rfl, (blk_cell HA2.b3 1).trans rfl⟩ | exact ⟨(blk_cell HA.b3 0).trans rfl, (blk_cell HA.b3 1).trans rfl⟩) (first | (go_at_call 51; (with_reducible refine (HP _ (Below.refl _ _).drew).out.mono ?_); rintro e w2 ⟨v, rfl, hv, h2⟩; have HA2 := HA.below (below_step (Below.refl _ _).drew h2); obtain ⟨A2, c2, e2⟩ := Kd.R_slice hv; subst e2; have HV2 := Sh.mk hv; clear hv h2; have hc60 := (blk_cell HA2.b6 0).trans rfl; have hc61 := (blk_cell HA2.b6 1).trans rfl; have hf60 := blk_frozen HA2.b6 0; have hf61 := blk_frozen HA2.b6 1))
          all_goals go_wp2
          all_goals (refine bodyPost_ret (v := .tuple #[.agg #[.int .i64 m, .slice A2 L.length c2], .bool true]) (by simp [HA2.p0, HA2.p1, results, Try.results39, go_sem]) rfl ?_)
          all_goals (unfold RAllocPost; rw [HE.out])
          all_goals (have hlt1 := blk_lt HA.b6)
          all_goals (have hlt2 := HA.bl.size)
          all_goals (exact ⟨_, rfl, Kd.R_lower (Kd.R_mono (Kd.R_far (p := ⟨w.heap.size + 1, 1, none⟩) (Kd.R_far (p := ⟨w.heap.size + 1, 0, none⟩) (Kd.R_bound HV2.out) (fun k hk => by have h : wr.heap.size ≤ k := hk.2.1; show k ≠ w.heap.size + 1; omega) _) (fun k hk => by have h : wr.heap.size ≤ k := hk.2.1; show k ≠ w.heap.size + 1; omega) _) (fun _ _ => trivial)) hlt2, below_set (below_set HA2.bl (by omega)) (by omega)⟩)
end Go.Proofs.Ytpddppipjlagfaa
