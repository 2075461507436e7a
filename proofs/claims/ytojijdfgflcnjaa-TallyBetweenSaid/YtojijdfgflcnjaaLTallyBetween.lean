/- The walk of the statement TallyBetween: the least and the greatest are of the numbers, none is outside them; the middle one is of them, with no more than half of them to either side. -/
import Derived.Test.YtojijdfgflcnjaaFlNums
namespace Go.Proofs.Ytojijdfgflcnjaa
set_option linter.unusedVariables false
set_option linter.unusedSimpArgs false
open Go.RowKit Go.Proofs.YtojijdfgflcnjaaW.PrintWords Go.Proofs.YtojijdfgflcnjaaW.PrintLast Go.Proofs.YtojijdfgflcnjaaW.PrintMore Fl Pr

/-- The ranks of all that are numbers. -/
def rkL (l : List Nat) : List Int := (l.filter fun x => !nanB x).map fun (x : Nat) => rk (x : Int)
theorem rkL_nan (p : List Nat) (x : Nat) (h : nanB x = true) : rkL (p ++ [x]) = rkL p := by unfold rkL; rw [List.filter_append]; simp [h]
theorem rkL_num (p : List Nat) (x : Nat) (h : nanB x = false) : rkL (p ++ [x]) = rkL p ++ [rk (x : Int)] := by unfold rkL; rw [List.filter_append]; simp [h]
theorem rkL_len (p : List Nat) : (rkL p).length ≤ p.length := by unfold rkL; rw [List.length_map]; exact List.length_filter_le _ _
/-- The ranks, in order. -/
theorem rkL_perm (l : List Nat) : ((srt l).map fun (x : Nat) => rk (x : Int)).Perm (rkL l) := (srt_perm l).map _
theorem rkS_pair (l : List Nat) : ((srt l).map fun (x : Nat) => rk (x : Int)).Pairwise (· ≤ ·) := by rw [List.pairwise_map]; exact srt_pair l
theorem count_low {s : List Int} (hs : s.Pairwise (· ≤ ·)) (p : Nat) (hp : p < s.length) : s.countP (fun r => decide (r < s[p])) ≤ p := by
  have hpw := List.pairwise_iff_getElem.1 hs
  have e : s = s.take p ++ s.drop p := (List.take_append_drop p s).symm
  have h2 : (s.drop p).countP (fun r => decide (r < s[p])) = 0 := by
    rw [List.countP_eq_zero]
    intro x hx
    obtain ⟨i, hi, rfl⟩ := List.mem_iff_getElem.1 hx
    simp only [List.length_drop] at hi
    rw [List.getElem_drop]
    simp only [decide_eq_true_eq, Int.not_lt]
    by_cases d : i = 0
    · subst d; simp
    · exact hpw p (p + i) hp (by omega) (by omega)
  have h3 : (s.take p).countP (fun r => decide (r < s[p])) ≤ p := Nat.le_trans List.countP_le_length (by simp; omega)
  have h4 : s.countP (fun r => decide (r < s[p])) = (s.take p).countP (fun r => decide (r < s[p])) + (s.drop p).countP (fun r => decide (r < s[p])) := by
    rw [← List.countP_append, List.take_append_drop]
  omega
theorem count_high {s : List Int} (hs : s.Pairwise (· ≤ ·)) (p : Nat) (hp : p < s.length) : s.countP (fun r => decide (s[p] < r)) ≤ s.length - 1 - p := by
  have hpw := List.pairwise_iff_getElem.1 hs
  have h2 : (s.take (p + 1)).countP (fun r => decide (s[p] < r)) = 0 := by
    rw [List.countP_eq_zero]
    intro x hx
    obtain ⟨i, hi, rfl⟩ := List.mem_iff_getElem.1 hx
    simp only [List.length_take] at hi
    rw [List.getElem_take]
    simp only [decide_eq_true_eq, Int.not_lt]
    by_cases d : i = p
    · subst d; simp
    · exact hpw i p (by omega) hp (by omega)
  have h3 : (s.drop (p + 1)).countP (fun r => decide (s[p] < r)) ≤ s.length - 1 - p := Nat.le_trans List.countP_le_length (by simp; omega)
  have h4 : s.countP (fun r => decide (s[p] < r)) = (s.take (p + 1)).countP (fun r => decide (s[p] < r)) + (s.drop (p + 1)).countP (fun r => decide (s[p] < r)) := by
    rw [← List.countP_append, List.take_append_drop]
  omega
/-- All that the statement asks of the three. -/
structure Btw (l : List Nat) (rlo rhi rm : Int) : Prop where
  lo : ∀ r ∈ rkL l, rlo ≤ r
  hi : ∀ r ∈ rkL l, r ≤ rhi
  mlo : rlo ∈ rkL l
  mhi : rhi ∈ rkL l
  mm : rm ∈ rkL l
  cl : (rkL l).countP (fun r => decide (r < rm)) ≤ ((rkL l).length - 1) / 2
  ch : (rkL l).countP (fun r => decide (rm < r)) ≤ (rkL l).length / 2
theorem wd_at (l : List Nat) (i : Nat) (h : i < (srt l).length) : rk (wd ((srt l).getD i 9221120237041090561)) = ((srt l).map fun (x : Nat) => rk (x : Int))[i]'(by simpa using h) := by
  rw [List.getD_eq_getElem?_getD, List.getElem?_eq_getElem h, List.getElem_map]
  have hm := (srt_perm l).mem_iff.1 (List.getElem_mem h)
  have := (List.mem_filter.1 hm).2
  simp only [Option.getD_some]
  rw [wd_num (by simpa using this)]
theorem btw_of (l : List Nat) (h : 0 < (rkL l).length) : Btw l (rk (wd (loN l))) (rk (wd (hiN l))) (rk (wd (midN l))) := by
  have hp := rkL_perm l
  have hs := rkS_pair l
  have hl : (srt l).length = (rkL l).length := by have := hp.length_eq; simpa using this
  have e0 : rk (wd (loN l)) = _ := wd_at l 0 (by omega)
  have e1 : rk (wd (hiN l)) = _ := wd_at l ((srt l).length - 1) (by omega)
  have e2 : rk (wd (midN l)) = _ := wd_at l (((srt l).length - 1) / 2) (by omega)
  rw [e0, e1, e2]
  obtain ⟨s, hss⟩ : ∃ s, s = (srt l).map fun (x : Nat) => rk (x : Int) := ⟨_, rfl⟩
  have hsl : s.length = (srt l).length := by rw [hss]; simp
  simp only [← hss] at hp hs ⊢
  have hpw := List.pairwise_iff_getElem.1 hs
  simp only [← hsl]
  refine ⟨fun r hr => ?_, fun r hr => ?_, hp.mem_iff.1 (List.getElem_mem _), hp.mem_iff.1 (List.getElem_mem _), hp.mem_iff.1 (List.getElem_mem _), ?_, ?_⟩
  · obtain ⟨i, hi, rfl⟩ := List.mem_iff_getElem.1 (hp.mem_iff.2 hr)
    by_cases d : i = 0
    · subst d; exact Int.le_refl _
    · exact hpw 0 i (by omega) hi (by omega)
  · obtain ⟨i, hi, rfl⟩ := List.mem_iff_getElem.1 (hp.mem_iff.2 hr)
    by_cases d : i = s.length - 1
    · subst d; exact Int.le_refl _
    · exact hpw i (s.length - 1) hi (by omega) (by omega)
  · rw [← hp.countP_eq]
    have := count_low hs ((s.length - 1) / 2) (by omega)
    omega
  · rw [← hp.countP_eq]
    have := count_high hs ((s.length - 1) / 2) (by omega)
    omega
/-- Two flags as a number. -/
def encB (f g : Bool) : Int := (if f then 1 else 0) + (if g then 2 else 0)
theorem enc_1 (f g : Bool) : bits .or .i64 (encB f g) 1 = encB true g := by cases f <;> cases g <;> decide
theorem enc_2 (f g : Bool) : bits .or .i64 (encB f g) 2 = encB f true := by cases f <;> cases g <;> decide
theorem srt_lt {l : List Nat} (hb : ∀ x ∈ l, x < 18446744073709551616) (i : Nat) : (srt l).getD i 9221120237041090561 < 18446744073709551616 := by
  rw [List.getD_eq_getElem?_getD]
  by_cases c : i < (srt l).length
  · rw [List.getElem?_eq_getElem c]
    exact hb _ (List.mem_filter.1 ((srt_perm l).mem_iff.1 (List.getElem_mem c))).1
  · rw [List.getElem?_eq_none (by omega)]
    decide
theorem rank_wd (x : Nat) (hx : x < 18446744073709551616) (w : World) : Calls Try.prog 33 #[.int .u64 (wd x)] w fun e w' => e = .returned (.int .u64 (rk (wd x))) ∧ w = w' := by
  have h := wd_lt x hx
  exact rank_any (wd x) h.1 h.2 w
/-- What is known behind k numbers. -/
structure Bk (p : List Nat) (rlo rhi rm : Int) (n b a : Nat) (m f g : Bool) : Prop where
  n : n = (rkL p).length
  b : b = (rkL p).countP (fun r => decide (r < rm))
  a : a = (rkL p).countP (fun r => decide (rm < r))
  m : m = (rkL p).any (fun r => decide (r = rm))
  f : f = (rkL p).any (fun r => decide (r = rlo))
  g : g = (rkL p).any (fun r => decide (r = rhi))
theorem Bk.nil (rlo rhi rm : Int) : Bk [] rlo rhi rm 0 0 0 false false false := ⟨rfl, rfl, rfl, rfl, rfl, rfl⟩
theorem Bk.nan {p : List Nat} {rlo rhi rm : Int} {n b a : Nat} {m f g : Bool} (h : Bk p rlo rhi rm n b a m f g) {x : Nat} (hx : nanB x = true) : Bk (p ++ [x]) rlo rhi rm n b a m f g := by
  refine ⟨?_, ?_, ?_, ?_, ?_, ?_⟩ <;> rw [rkL_nan p x hx]
  · exact h.n
  · exact h.b
  · exact h.a
  · exact h.m
  · exact h.f
  · exact h.g
theorem Bk.num {p : List Nat} {rlo rhi rm : Int} {n b a : Nat} {m f g : Bool} (h : Bk p rlo rhi rm n b a m f g) {x : Nat} (hx : nanB x = false) {r : Int} (hr : r = rk (x : Int)) :
    Bk (p ++ [x]) rlo rhi rm (n + 1) (b + if r < rm then 1 else 0) (a + if rm < r then 1 else 0) (m || decide (r = rm)) (f || decide (r = rlo)) (g || decide (r = rhi)) := by
  subst hr
  refine ⟨?_, ?_, ?_, ?_, ?_, ?_⟩ <;> rw [rkL_num p x hx]
  · rw [h.n]; simp
  · rw [h.b]; simp [List.countP_append, List.countP_cons]
  · rw [h.a]; simp [List.countP_append, List.countP_cons]
  · rw [h.m]; simp
  · rw [h.f]; simp
  · rw [h.g]; simp
set_option maxRecDepth 100000 in
set_option maxHeartbeats 8000000 in
theorem tallyBetween_walk (A0 : Option Addr) (c0 : Nat) (l0 : List Int) (w : World) (hr0 : Kd.C (Kd.int .u64) w A0 l0.length l0) (hc0 : l0.length ≤ c0) (hw0 : ∀ x ∈ l0, (Lit.int .u64 x).wf = true) (y0 : l0.length * 8 ≤ 140737488351232) :
    Calls Try.prog 10 #[.slice A0 l0.length c0] w fun e w' => e = .returned (.bool true) ∧ Below w.heap.size w w' := by
  have HN := Sh.mk (nums_any A0 c0 l0 w hr0 (by omega))
  have hlt := numsL_lt (u64_mem hw0)
  have hlen : (numsL l0).length ≤ 300 := by rw [numsL_len]; omega
  obtain ⟨l, hl⟩ : ∃ l, l = numsL l0 := ⟨_, rfl⟩
  rw [← hl] at HN hlt hlen
  have HLT := Sh.mk hlt
  have RLO := Sh.mk (rank_wd (loN l) (srt_lt hlt _))
  have RHI := Sh.mk (rank_wd (hiN l) (srt_lt hlt _))
  have RM := Sh.mk (rank_wd (midN l) (srt_lt hlt _))
  have HBT := Sh.mk (btw_of l)
  have KLO := Sh.mk (kind_any (loN l) (srt_lt hlt _))
  have KHI := Sh.mk (kind_any (hiN l) (srt_lt hlt _))
  have KM := Sh.mk (kind_any (midN l) (srt_lt hlt _))
  have HN0 : Sh ((rkL l).length = 0 → kindN (loN l) = 0 ∧ kindN (hiN l) = 0 ∧ kindN (midN l) = 0) := ⟨fun h => by
    have e : srt l = [] := List.eq_nil_of_length_eq_zero (by have := (rkL_perm l).length_eq; simp at this; omega)
    unfold loN hiN midN
    rw [e]
    decide⟩
  obtain ⟨rlo, hrlo⟩ : ∃ r, r = rk (wd (loN l)) := ⟨_, rfl⟩
  obtain ⟨rhi, hrhi⟩ : ∃ r, r = rk (wd (hiN l)) := ⟨_, rfl⟩
  obtain ⟨rm, hrm⟩ : ∃ r, r = rk (wd (midN l)) := ⟨_, rfl⟩
  rw [← hrlo, ← hrhi, ← hrm] at HBT
  rw [← hrlo] at RLO
  rw [← hrhi] at RHI
  rw [← hrm] at RM
  clear hl hr0 hw0 y0 hlt hrlo hrhi hrm
  go_enter Try.func10, Try.ntmps10
  go_wp2_with fail
  (with_reducible refine HN.out.mono ?_); rintro e w1 ⟨v, rfl, h1, h2⟩
  obtain ⟨A, c, e2, hcc, hC⟩ := Kd.R_reads h1
  subst e2
  have HB := Sh.mk h2
  have HC := Sh.mk hC
  clear h1 h2 hC HN
  go_wp2_with fail
  (with_reducible refine (ends_any A c l w1 HC.out (by omega) HLT.out).mono ?_); rintro e w2 ⟨rfl, b⟩
  have B2 := Sh.mk b
  clear b
  go_wp2_with fail
  (with_reducible refine (mid_any A c l w2 (Kd.C_below HC.out B2.out) (by omega) HLT.out).mono ?_); rintro e w3 ⟨rfl, b⟩
  have B3 : Sh (Below w1.heap.size w1 w3) := ⟨below_then B2.out B2.out.size b⟩
  clear b
  go_wp2_with fail
  (with_reducible refine (word_any _ _).mono ?_); rintro e w' ⟨rfl, rfl⟩
  go_wp2_with fail
  (with_reducible refine (RM.out _).mono ?_); rintro e w' ⟨rfl, rfl⟩
  go_wp2
  go_loopw [7, 8, 9, 10, 11, 12] (fun vn vb va vm ve i wr => ∃ (k n b a : Nat) (m f g : Bool), k ≤ l.length ∧ i = .int .i64 k ∧ vn = .int .i64 n ∧ vb = .int .i64 b ∧ va = .int .i64 a ∧ vm = .bool m ∧ ve = .int .i64 (encB f g) ∧ n ≤ k ∧ b ≤ k ∧ a ≤ k ∧ Sh (Bk (l.take k) rlo rhi rm n b a m f g) ∧ Sh (Below w1.heap.size w1 wr)) (fun vn vb va vm ve i _ => l.length - (intOf i).toNat)
  case atStart => exact ⟨0, 0, 0, 0, false, false, false, Nat.zero_le _, rfl, rfl, rfl, rfl, rfl, rfl, by omega, by omega, by omega, ⟨Bk.nil _ _ _⟩, B3⟩
  case round =>
    obtain ⟨k, n, b, a, m, f, g, hk, rfl, rfl, rfl, rfl, rfl, rfl, hnk, hbk, hak, HK, HBr⟩ := hrel
    by_cases hlt : k < l.length
    · obtain ⟨ad, e9, -, hcell⟩ := at_f (Kd.C_below HC.out HBr.out) (k : Int) (by omega) (by omega) 0
      subst e9
      rw [Int.toNat_natCast] at hcell
      have hx0 : l.getD k 0 = l[k] := by rw [List.getD_eq_getElem?_getD, List.getElem?_eq_getElem hlt]; rfl
      have hts : l.take (k + 1) = l.take k ++ [l[k]] := List.take_succ_eq_append_getElem hlt
      have hxm : l[k] ∈ l := List.getElem_mem hlt
      rw [hx0] at hcell
      obtain ⟨x, hx⟩ : ∃ x, x = l[k] := ⟨_, rfl⟩
      rw [← hx] at hcell hts hxm
      have HTS := Sh.mk hts
      have HXM := Sh.mk hxm
      have t0 := t_ne x
      clear hx hx0 hts hxm
      cases hn : nanB x with
      | true =>
        have HNX := Sh.mk hn
        rw [hn] at t0
        clear hn
        go_wp2_with fail
        go_quiet (fail)
        go_wp2
        go_roundw
        case measure => simp [intOf]; omega
        case rel => exact ⟨k + 1, n, b, a, m, f, g, by omega, by go_num, rfl, rfl, rfl, rfl, rfl, by omega, by omega, by omega, ⟨by rw [HTS.out]; exact HK.out.nan HNX.out⟩, ⟨by first | exact HBr.out | exact below_then HBr.out HBr.out.size (pw_below_drewN (Below.refl _ _) _)⟩⟩
      | false =>
        have HNX := Sh.mk hn
        rw [hn] at t0
        have RX := Sh.mk (rank_wd x (HLT.out x HXM.out))
        have hxl := HLT.out x HXM.out
        obtain ⟨r, hr⟩ : ∃ r, r = rk (wd x) := ⟨_, rfl⟩
        rw [← hr] at RX
        have hr2 : r = rk (x : Int) := by rw [hr, wd_num hn]
        have hmem : r ∈ rkL l := by rw [hr2]; unfold rkL; exact List.mem_map.2 ⟨x, List.mem_filter.2 ⟨HXM.out, by simp [hn]⟩, rfl⟩
        have hbt := HBT.out (List.length_pos_of_mem hmem)
        have q1 := hbt.lo r hmem
        have q2 := hbt.hi r hmem
        have HK2 := Sh.mk (HK.out.num hn hr2)
        have e1 := enc_1 f g
        have e2 := enc_2 f g
        have e3 := enc_2 true g
        clear hn hr hr2 hmem hbt
        have d1 : ∃ d, (r == rm) = d ∧ decide (r = rm) = d ∧ (d = true → r ≤ rm ∧ rm ≤ r) ∧ (d = false → r < rm ∨ rm < r) := ⟨decide (r = rm), by rfl, rfl, fun h => by simp at h; omega, fun h => by simp at h; omega⟩
        have d2 : ∃ d, (r == rlo) = d ∧ decide (r = rlo) = d := ⟨decide (r = rlo), rfl, rfl⟩
        have d3 : ∃ d, (r == rhi) = d ∧ decide (r = rhi) = d := ⟨decide (r = rhi), rfl, rfl⟩
        obtain ⟨d1, D1, E1, F1, G1⟩ := d1
        obtain ⟨d2, D2, E2⟩ := d2
        obtain ⟨d3, D3, E3⟩ := d3
        rw [E1, E2, E3] at HK2
        clear E1 E2 E3
        have hc : (d1 = true ∧ r ≤ rm ∧ rm ≤ r) ∨ (d1 = false ∧ r < rm) ∨ (d1 = false ∧ rm < r) := by
          cases d1 with
          | true => exact .inl ⟨rfl, F1 rfl⟩
          | false => exact .inr ((G1 rfl).imp (fun h => ⟨rfl, h⟩) (fun h => ⟨rfl, h⟩))
        clear F1 G1
        rcases hc with ⟨rfl, c1, c2⟩ | ⟨rfl, c1⟩ | ⟨rfl, c1⟩ <;> cases d2 <;> cases d3 <;> cases m
        all_goals
          go_wp2_with fail
          go_quiet (fail)
          go_wp2_with fail
          (with_reducible refine (word_any _ _).mono ?_); rintro e w' ⟨rfl, rfl⟩
          go_wp2_with fail
          (with_reducible refine (RX.out _).mono ?_); rintro e w' ⟨rfl, rfl⟩
          go_wp2_with (first
            | (go_at_call 19; (with_reducible refine (word_any _ _).mono ?_); rintro e w' ⟨rfl, rfl⟩)
            | (go_at_call 33; (with_reducible refine (RLO.out _).mono ?_); rintro e w' ⟨rfl, rfl⟩)
            | (go_at_call 33; (with_reducible refine (RHI.out _).mono ?_); rintro e w' ⟨rfl, rfl⟩))
          go_roundw
          all_goals first
            | (simp [intOf]; omega)
            | exact ⟨k + 1, n + 1, b + (if r < rm then 1 else 0), a + (if rm < r then 1 else 0), _, _, _, by omega, by go_num, by go_num, by first | (rw [if_pos (by omega)]; go_num) | (rw [if_neg (by omega)]; rfl), by first | (rw [if_pos (by omega)]; go_num) | (rw [if_neg (by omega)]; rfl), rfl, by first | rfl | (simp; done) | (cases f <;> cases g <;> rfl), by omega, by split <;> omega, by split <;> omega, ⟨by rw [HTS.out]; simpa only [Bool.or_true, Bool.or_false, Bool.true_or, Bool.false_or] using HK2.out⟩, ⟨by first | exact HBr.out | exact below_then HBr.out HBr.out.size (pw_below_drewN (Below.refl _ _) _)⟩⟩
    · have hk2 := HK.out
      rw [List.take_of_length_le (by omega)] at hk2
      rcases Nat.eq_zero_or_pos n with h0 | h0
      · obtain ⟨k1, k2, k3⟩ := HN0.out (by rw [← hk2.n]; exact h0)
        have zn : ((n : Int) == 0) = true := beq_iff_eq.2 (by omega)
        have K1 := Sh.mk k1
        have K2 := Sh.mk k2
        have K3 := Sh.mk k3
        clear k1 k2 k3 hk2 h0
        go_wp2_with fail
        (with_reducible refine (KLO.out _).mono ?_); rintro e w' ⟨rfl, rfl⟩
        rw [K1.out]
        go_wp2_with fail
        (with_reducible refine (KHI.out _).mono ?_); rintro e w' ⟨rfl, rfl⟩
        rw [K2.out]
        go_wp2_with fail
        (with_reducible refine (mid_any A c l wr (Kd.C_below HC.out HBr.out) (by omega) HLT.out).mono ?_); rintro e u3 ⟨rfl, b⟩
        have U3 : Sh (Below w1.heap.size w1 u3) := ⟨below_then HBr.out HBr.out.size b⟩
        clear b
        go_wp2_with fail
        (with_reducible refine (KM.out _).mono ?_); rintro e w' ⟨rfl, rfl⟩
        rw [K3.out]
        go_wp2_with fail
        (with_reducible refine (awake_any _).mono ?_); rintro e u4 ⟨rfl, b⟩
        have U4 : Sh (Below w1.heap.size w1 u4) := ⟨below_then U3.out U3.out.size b⟩
        clear b
        go_wp2
        go_ret
        exact ⟨rfl, below_then HB.out HB.out.size U4.out⟩
      · have hbt := HBT.out (by rw [← hk2.n]; exact h0)
        obtain rfl : m = true := by rw [hk2.m]; exact List.any_eq_true.2 ⟨rm, hbt.mm, by simp⟩
        obtain rfl : f = true := by rw [hk2.f]; exact List.any_eq_true.2 ⟨rlo, hbt.mlo, by simp⟩
        obtain rfl : g = true := by rw [hk2.g]; exact List.any_eq_true.2 ⟨rhi, hbt.mhi, by simp⟩
        have cl := hbt.cl
        have ch := hbt.ch
        rw [← hk2.n, ← hk2.b] at cl
        rw [← hk2.n, ← hk2.a] at ch
        have cl2 : (b : Int) ≤ ((n : Int) - 1) / 2 := by omega
        have ch2 : (a : Int) ≤ (n : Int) / 2 := by omega
        have zn : ((n : Int) == 0) = false := beq_eq_false_iff_ne.2 (by omega)
        have e3 : encB true true = 3 := rfl
        clear hk2 hbt cl ch HK
        rw [e3]
        clear e3
        go_wp2_with fail
        (with_reducible refine (awake_any _).mono ?_); rintro e u4 ⟨rfl, b⟩
        have U4 : Sh (Below w1.heap.size w1 u4) := ⟨below_then HBr.out HBr.out.size b⟩
        clear b
        go_wp2
        go_ret
        exact ⟨rfl, below_then HB.out HB.out.size U4.out⟩
end Go.Proofs.Ytojijdfgflcnjaa
