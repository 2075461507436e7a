/- The walk of the statement TallyBroken: of one run nothing is broken up; of more runs it is less than whole, and not below nought; of none it is no number. -/
import Derived.Test.YtojijdfgflcnjaaFlAwake
namespace Go.Proofs.Ytojijdfgflcnjaa
set_option linter.unusedVariables false
open Go.RowKit Go.Proofs.YtojijdfgflcnjaaW.PrintWords Go.Proofs.YtojijdfgflcnjaaW.PrintLast Go.Proofs.YtojijdfgflcnjaaW.PrintMore Fl Pr

namespace Pure
theorem made20_l0 (x0 : List Int) (h8 : ∀ x ∈ x0, (Lit.int .u8 x).wf = true) (hl : x0.length < 4611686018427387904) : ∀ (d : Nat) (l : List Rn) (at_ i : Int), (x0.length : Int) - i ≤ d → 0 ≤ i → i ≤ (x0.length : Int) + 1 → rt 256 (-1) l → (l = [] ∧ at_ = 0 ∨ l ≠ [] ∧ at_ = lastE (-1) l) → (∀ x ∈ l, x.f1 ≤ 20) →
    ∃ r, Ev (fun k => rickyardlaw5_Made.l0 k x0 l at_ i) r ∧ rt 256 (-1) r ∧ ∀ x ∈ r, x.f1 ≤ 20 := by
  intro d
  induction d with
  | zero =>
    intro l at_ i hd h0 h1 hr ha hm
    refine ⟨l, Ev.step1 (fun k => ?_), hr, hm⟩
    have e1 : wrap64 (i + 1) = i + 1 := w64 (by omega) (by omega)
    have p : ¬ (i + 1 < (x0.length : Int)) := by omega
    simp only [rickyardlaw5_Made.l0]
    rw [e1, if_neg p]
  | succ d ih =>
    intro l at_ i hd h0 h1 hr ha hm
    have e1 : wrap64 (i + 1) = i + 1 := w64 (by omega) (by omega)
    have e2 : wrap64 (i + 2) = i + 2 := w64 (by omega) (by omega)
    by_cases c : i + 1 < (x0.length : Int)
    · have hu := rd_u8 h8 i
      have hv := rd_u8 h8 (i + 1)
      obtain ⟨u, hu'⟩ : ∃ u, rd x0 i = u := ⟨_, rfl⟩
      obtain ⟨v, hv'⟩ : ∃ v, rd x0 (i + 1) = v := ⟨_, rfl⟩
      rw [hu'] at hu
      rw [hv'] at hv
      have hle := lastE_le hr (by omega)
      have hat : 0 ≤ at_ ∧ at_ ≤ 256 := by
        rcases ha with ⟨_, h⟩ | ⟨hne, h⟩
        · omega
        · cases l with
          | nil => exact absurd rfl hne
          | cons x l => have := (lastE_le hr.2.2.2 (by have := hr; exact this.2.2.1)); have h1 := hr.1; have h2 := hr.2.1; simp only [lastE] at h; omega
      have hlen : l.length < 8796093022208 := by
        rcases rt_len hr with rfl | h
        · simp
        · omega
      have p1 : i < (x0.length : Int) := by omega
      have p2 : 0 ≤ i + 1 := by omega
      have t1 : wrap64 u = u := w64 (by omega) (by omega)
      have t2 : wrap64 v = v := w64 (by omega) (by omega)
      have t3 : Int.tmod u 9 = u % 9 := tmod_emod (by omega)
      have t4 : Int.tmod v 20 = v % 20 := tmod_emod (by omega)
      have t5 : wrap64 (1 + v % 20) = 1 + v % 20 := w64 (by omega) (by omega)
      have t6 : wrap64 (at_ + u % 9) = at_ + u % 9 := w64 (by omega) (by omega)
      have t7 : wrap64 (at_ + u % 9 + 1) = at_ + u % 9 + 1 := w64 (by omega) (by omega)
      have t8 : wrap64 (256 - (at_ + u % 9)) = 256 - (at_ + u % 9) := w64 (by omega) (by omega)
      have t9 : wrap64 (256 - (at_ + u % 9 + 1)) = 256 - (at_ + u % 9 + 1) := w64 (by omega) (by omega)
      have t10 : wrap64 (at_ + u % 9 + (1 + v % 20)) = at_ + u % 9 + (1 + v % 20) := w64 (by omega) (by omega)
      have t11 : wrap64 (at_ + u % 9 + 1 + (1 + v % 20)) = at_ + u % 9 + 1 + (1 + v % 20) := w64 (by omega) (by omega)
      rcases ha with ⟨rfl, rfl⟩ | ⟨hne, ha⟩
      · by_cases q : 1 + v % 20 > 256 - (0 + u % 9)
        · refine ⟨[], Ev.step1 (fun k => ?_), trivial, by simp⟩
          simp only [rickyardlaw5_Made.l0]
          rw [e1, if_pos c, if_pos h0, if_pos p1, if_neg (by simp), if_pos p2, hu', hv', t1, t2, t3, t4, t5, t6, t8, if_pos q]
        · obtain ⟨r, hr1, hr2⟩ := ih ([] ++ [⟨0 + u % 9, 1 + v % 20⟩]) (0 + u % 9 + (1 + v % 20)) (i + 2) (by omega) (by omega) (by omega) (show rt 256 (-1) [⟨0 + u % 9, 1 + v % 20⟩] from ⟨by simp; omega, by simp; omega, by simp; omega, trivial⟩) (.inr ⟨by simp, rfl⟩) (by intro x hx; simp at hx; subst hx; simp; omega)
          refine ⟨r, Ev.step (fun k => ?_) hr1, hr2⟩
          simp only [rickyardlaw5_Made.l0]
          rw [e1, if_pos c, if_pos h0, if_pos p1, if_neg (by simp), if_pos p2, hu', hv', t1, t2, t3, t4, t5, t6, t8, if_neg q, if_pos hlen, t10, e2]
      · have hpos : (l.length : Int) > 0 := by
          have := List.length_pos_iff.2 hne
          omega
        by_cases q : 1 + v % 20 > 256 - (at_ + u % 9 + 1)
        · refine ⟨l, Ev.step1 (fun k => ?_), hr, hm⟩
          simp only [rickyardlaw5_Made.l0]
          rw [e1, if_pos c, if_pos h0, if_pos p1, if_pos hpos, if_pos p2, hu', hv', t1, t2, t3, t4, t5, t6, t7, t9, if_pos q]
        · obtain ⟨r, hr1, hr2⟩ := ih (l ++ [⟨at_ + u % 9 + 1, 1 + v % 20⟩]) (at_ + u % 9 + 1 + (1 + v % 20)) (i + 2) (by omega) (by omega) (by omega) (by
            rw [rt_append]
            refine ⟨hr, ?_, ?_, ?_, trivial⟩
            · rw [← ha]; simp; omega
            · simp; omega
            · simp; omega) (.inr ⟨by simp, by rw [lastE_append]; simp [lastE]⟩) (by
            intro x hx
            rcases List.mem_append.1 hx with hx | hx
            · exact hm x hx
            · simp at hx; subst hx; simp; omega)
          refine ⟨r, Ev.step (fun k => ?_) hr1, hr2⟩
          simp only [rickyardlaw5_Made.l0]
          rw [e1, if_pos c, if_pos h0, if_pos p1, if_pos hpos, if_pos p2, hu', hv', t1, t2, t3, t4, t5, t6, t7, t9, if_neg q, if_pos hlen, t11, e2]
    · refine ⟨l, Ev.step1 (fun k => ?_), hr, hm⟩
      simp only [rickyardlaw5_Made.l0]
      rw [e1, if_neg c]
theorem made20_ev {x0 : List Int} (h8 : ∀ x ∈ x0, (Lit.int .u8 x).wf = true) (hl : x0.length * 1 ≤ 140737488351232) : ∃ r, Ev (fun k => rickyardlaw5_Made.f k x0) r ∧ rt 256 (-1) r ∧ ∀ x ∈ r, x.f1 ≤ 20 := by
  obtain ⟨r, h1, h2⟩ := made20_l0 x0 h8 (by omega) (x0.length + 1) [] 0 0 (by omega) (by omega) (by omega) trivial (.inl ⟨rfl, rfl⟩) (by simp)
  exact ⟨r, Ev.congr (fun k => by rfl) h1, h2⟩
/-- No run is longer than 20. -/
theorem most_le (l : List Rn) (s : Int) (hs : s ≤ 20) (h : ∀ x ∈ l, x.f1 ≤ 20) : most l s ≤ 20 := by
  rcases most_is l s with e | ⟨x, hx, e⟩
  · omega
  · have := h x hx; omega
end Pure
open Go.Proofs.Ytojijdfgflcnjaa.Pure
theorem frag_of (l : List Rn) (hr : rt 256 (-1) l) (h20 : ∀ x ∈ l, x.f1 ≤ 20) :
    (l.length = 0 → kindN (frN (most l 0) (tot l)) = 0) ∧ (l.length = 1 → kindN (frN (most l 0) (tot l)) = 4) ∧ (2 ≤ l.length → midB (frN (most l 0) (tot l)) = true) := by
  refine ⟨fun h => ?_, fun h => ?_, fun h => ?_⟩
  · obtain rfl := List.eq_nil_of_length_eq_zero h
    decide +kernel
  · obtain ⟨x, rfl⟩ := List.length_eq_one_iff.1 h
    have h1 := rt_mem hr (x := x) (by simp)
    have h2 := h20 x (by simp)
    have e1 : most [x] 0 = x.f1 := by
      rcases most_is [x] 0 with e | ⟨y, hy, e⟩
      · have := (most_ge [x] 0).2 x (by simp); omega
      · simp at hy; subst hy; exact e
    have e2 : tot [x] = x.f1 := by simp [tot]
    rw [e1, e2]
    have := frN_one ⟨x.f1.toNat, by omega⟩ (by simp; omega)
    simp only [Int.toNat_of_nonneg (show 0 ≤ x.f1 by omega)] at this
    rw [this]
    decide
  · obtain ⟨x, y, l', rfl⟩ : ∃ x y l', l = x :: y :: l' := by
      match l, h with
      | x :: y :: l', _ => exact ⟨x, y, l', rfl⟩
    have ht : tot (x :: y :: l') ≤ 256 := by
      obtain ⟨a1, a2, a3, a4⟩ := hr
      have := tot_le a4 (by omega)
      have e : tot (x :: y :: l') = x.f1 + tot (y :: l') := rfl
      omega
    have hm := most_ge (x :: y :: l') 0
    have hle := most_le (x :: y :: l') 0 (by omega) h20
    have hlt : most (x :: y :: l') 0 < tot (x :: y :: l') := by
      have hmem : ∀ z ∈ (x :: y :: l'), z.f1 < tot (x :: y :: l') := by
        obtain ⟨a1, a2, a3, b1, b2, b3, b4⟩ := hr
        have t2 := tot_le b4 (by omega)
        intro z hz
        have key : ∀ (m : List Rn) (e : Int), rt 256 e m → ∀ z ∈ m, z.f1 ≤ tot m := by
          intro m
          induction m with
          | nil => intro e _ z hz; cases hz
          | cons u m ih =>
            intro e hr z hz
            obtain ⟨c1, c2, c3, c4⟩ := hr
            have t3 := tot_le c4 (by omega)
            simp only [tot]
            rcases List.mem_cons.1 hz with rfl | hz
            · omega
            · have := ih _ c4 z hz; omega
        simp only [tot]
        rcases List.mem_cons.1 hz with rfl | hz
        · omega
        · rcases List.mem_cons.1 hz with rfl | hz
          · omega
          · have := key l' _ b4 z hz; omega
      rcases most_is (x :: y :: l') 0 with e | ⟨z, hz, e⟩
      · have := hmem x (by simp)
        have := (rt_mem hr (x := x) (by simp)).2.1
        omega
      · have := hmem z hz; omega
    have h1 : 1 ≤ most (x :: y :: l') 0 := by
      have := hm.2 x (by simp)
      have := (rt_mem hr (x := x) (by simp)).2.1
      omega
    generalize most (x :: y :: l') 0 = M at *
    generalize tot (x :: y :: l') = T at *
    have := frN_mid ⟨M.toNat, by omega⟩ ⟨T.toNat, by omega⟩ (by simp; omega) (by simp; omega)
    simpa only [Int.toNat_of_nonneg (show 0 ≤ M by omega), Int.toNat_of_nonneg (show 0 ≤ T by omega)] using this
set_option maxHeartbeats 1000000 in
theorem tallyBroken_walk (A0 : Option Addr) (c0 : Nat) (l0 : List Int) (w : World) (hr0 : Kd.C (Kd.int .u8) w A0 l0.length l0) (hc0 : l0.length ≤ c0) (hw0 : ∀ x ∈ l0, (Lit.int .u8 x).wf = true) (y0 : l0.length * 1 ≤ 140737488351232) :
    Calls Try.prog 7 #[.slice A0 l0.length c0] w fun e w' => e = .returned (.bool true) ∧ Below w.heap.size w w' := by
  obtain ⟨l, h1, h2, h3⟩ := made20_ev hw0 y0
  obtain ⟨k, hk⟩ := h1.rounds
  have HM := Sh.mk (rickyardlaw5_Made.calls k A0 c0 l0 l w hr0 hc0 (by rw [hk]))
  have hll : l.length < 9223372036854775807 := by
    rcases rt_len h2 with rfl | h
    · simp
    · omega
  obtain ⟨k1, m1⟩ := (most_ev l hll).rounds
  obtain ⟨k2, m2⟩ := (total_ev h2).rounds
  obtain ⟨f0, f1, f2⟩ := frag_of l h2 h3
  have M1 := Sh.mk m1
  have M2 := Sh.mk m2
  have F0 := Sh.mk f0
  have F1 := Sh.mk f1
  have F2 := Sh.mk f2
  have hl2 : l.length ≤ 9223372036854775807 := by omega
  clear h1 h2 h3 hk m1 m2 f0 f1 f2 hr0 hw0 y0 hll
  go_enter Try.func7, Try.ntmps7
  go_wp2_with fail
  (with_reducible refine HM.out.mono ?_); rintro e w1 ⟨v, rfl, h1, h2⟩
  obtain ⟨A, c, e2, hle, hc⟩ := Kd.R_reads h1
  subst e2
  have HC := Sh.mk hc
  have B1 := Sh.mk h2
  clear h1 h2 hc HM
  go_wp2_with fail
  (with_reducible refine (frag_any _ _ k1 k2 A c l w1 HC.out hle M1.out M2.out).mono ?_); rintro e w2 ⟨r, rfl, h1, h2, h3⟩
  have E := Sh.mk h1
  have L := Sh.mk h2
  have B2 : Sh (Below w.heap.size w w2) := ⟨below_then B1.out B1.out.size h3⟩
  clear h1 h2 h3
  rcases Nat.lt_or_ge l.length 2 with hlt | hge
  · rcases Nat.eq_zero_or_pos l.length with h0 | h0
    · have hk : kindN r = 0 := E.out.kind.trans (F0.out h0)
      have HK := Sh.mk hk
      have b0 : ((l.length : Int) == 0) = true := beq_iff_eq.2 (by omega)
      clear hk hlt h0 hle
      go_wp2_with fail
      (with_reducible refine (kind_any r L.out _).mono ?_); rintro e w' ⟨rfl, rfl⟩
      rw [HK.out]
      go_wp2_with fail
      (with_reducible refine (awake_any _).mono ?_); rintro e w4 ⟨rfl, h3⟩
      have B4 : Sh (Below w.heap.size w w4) := ⟨below_then B2.out B2.out.size h3⟩
      clear h3
      go_wp2
      go_ret
      exact ⟨rfl, B4.out⟩
    · have hk : kindN r = 4 := E.out.kind.trans (F1.out (by omega))
      have HK := Sh.mk hk
      have b0 : ((l.length : Int) == 0) = false := beq_eq_false_iff_ne.2 (by omega)
      have b1 : ((l.length : Int) == 1) = true := beq_iff_eq.2 (by omega)
      clear hk hlt h0 hle
      go_wp2_with fail
      (with_reducible refine (kind_any r L.out _).mono ?_); rintro e w' ⟨rfl, rfl⟩
      rw [HK.out]
      go_wp2_with fail
      (with_reducible refine (awake_any _).mono ?_); rintro e w4 ⟨rfl, h3⟩
      have B4 : Sh (Below w.heap.size w w4) := ⟨below_then B2.out B2.out.size h3⟩
      clear h3
      go_wp2
      go_ret
      exact ⟨rfl, B4.out⟩
  · have hm := F2.out hge
    have hr : r = frN (Pure.most l 0) (Pure.tot l) := by
      rcases E.out with h | ⟨_, h⟩
      · exact h
      · exfalso
        obtain ⟨f, hf⟩ := read_nan _ h
        unfold midB Ieee.Format.order at hm
        rw [hf] at hm
        simp [Ieee.Datum.order] at hm
    rw [← hr] at hm
    unfold midB at hm
    rw [Bool.and_eq_true] at hm
    obtain ⟨q1, q2⟩ := hm
    have z1 : (FloatKind.f64.format.order r 0 == some .gt) = true := q1
    have z2 : (FloatKind.f64.format.order r 4607182418800017408 == some .lt) = true := q2
    have b0 : ((l.length : Int) == 0) = false := beq_eq_false_iff_ne.2 (by omega)
    have b1 : ((l.length : Int) == 1) = false := beq_eq_false_iff_ne.2 (by omega)
    clear q1 q2 hr hge hle
    go_wp2_with fail
    (with_reducible refine (awake_any _).mono ?_); rintro e w4 ⟨rfl, h3⟩
    have B4 : Sh (Below w.heap.size w w4) := ⟨below_then B2.out B2.out.size h3⟩
    clear h3
    go_wp2
    go_ret
    exact ⟨rfl, B4.out⟩
end Go.Proofs.Ytojijdfgflcnjaa
