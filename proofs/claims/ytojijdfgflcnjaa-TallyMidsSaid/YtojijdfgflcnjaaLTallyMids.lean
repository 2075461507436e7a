/- The walk of the statement TallyMids: the middle one, the least, the greatest of any numbers are the document's. -/
import Derived.Test.YtojijdfgflcnjaaFlRef
namespace Go.Proofs.Ytojijdfgflcnjaa
set_option linter.unusedVariables false
set_option linter.unusedSimpArgs false
open Go.RowKit Go.Proofs.YtojijdfgflcnjaaW.PrintWords Go.Proofs.YtojijdfgflcnjaaW.PrintLast Go.Proofs.YtojijdfgflcnjaaW.PrintMore Fl Pr

theorem insK_is (m : List Int) (v : Int) (k : Nat) (hk : k ≤ m.length) : (∀ i (hi : i < m.length), insK m v k ≤ i → i < k → rk v < rk m[i]) ∧ (∀ h : 0 < insK m v k, rk (m[insK m v k - 1]'(by have := insK_le m v k; omega)) ≤ rk v) := by
  induction k with
  | zero => exact ⟨fun i hi h1 h2 => by omega, fun h => absurd h (by simp [insK])⟩
  | succ k ih =>
    obtain ⟨h1, h2⟩ := ih (by omega)
    have e : rd m (k : Int) = m[k]'(by omega) := by simp [rd, List.getD_eq_getElem?_getD, List.getElem?_eq_getElem (show k < m.length by omega)]
    by_cases c : rk v < rk (rd m (k : Int))
    · have ei : insK m v (k + 1) = insK m v k := by rw [insK, if_pos c]
      refine ⟨fun i hi a b => ?_, fun h => ?_⟩
      · rw [ei] at a
        by_cases d : i = k
        · subst d; rwa [e] at c
        · exact h1 i hi a (by omega)
      · simp only [ei] at h ⊢
        exact h2 h
    · have ei : insK m v (k + 1) = k + 1 := by rw [insK, if_neg c]
      refine ⟨fun i hi a b => by omega, fun h => ?_⟩
      simp only [ei, Nat.add_sub_cancel]
      rw [e] at c
      omega
theorem insL_pair (m : List Int) (v : Int) (hm : m.Pairwise fun x y => rk x ≤ rk y) : (insL m v).Pairwise fun x y => rk x ≤ rk y := by
  obtain ⟨h1, h2⟩ := insK_is m v m.length (Nat.le_refl _)
  have hle := insK_le m v m.length
  obtain ⟨p, hp⟩ : ∃ p, p = insK m v m.length := ⟨_, rfl⟩
  simp only [← hp] at h1 h2 hle
  unfold insL
  rw [← hp]
  have hpw := List.pairwise_iff_getElem.1 hm
  have hlow : ∀ x ∈ m.take p, rk x ≤ rk v := by
    intro x hx
    obtain ⟨i, hi, rfl⟩ := List.mem_iff_getElem.1 hx
    simp only [List.length_take] at hi
    rw [List.getElem_take]
    have := h2 (by omega)
    by_cases d : i = p - 1
    · subst d; exact this
    · have := hpw i (p - 1) (by omega) (by omega) (by omega)
      omega
  have hhigh : ∀ x ∈ m.drop p, rk v ≤ rk x := by
    intro x hx
    obtain ⟨i, hi, rfl⟩ := List.mem_iff_getElem.1 hx
    simp only [List.length_drop] at hi
    rw [List.getElem_drop]
    have := h1 (p + i) (by omega) (by omega) (by omega)
    omega
  have htd : ∀ x ∈ m.take p, ∀ y ∈ m.drop p, rk x ≤ rk y := fun x hx y hy => Int.le_trans (hlow x hx) (hhigh y hy)
  rw [List.pairwise_append, List.pairwise_append]
  refine ⟨⟨hm.sublist (List.take_sublist _ _), by simp, fun x hx y hy => ?_⟩, hm.sublist (List.drop_sublist _ _), fun x hx y hy => ?_⟩
  · simp at hy; subst hy; exact hlow x hx
  · rcases List.mem_append.1 hx with hx | hx
    · exact htd x hx y hy
    · simp at hx; subst hx; exact hhigh y hy
theorem insL_perm (m : List Int) (v : Int) : (insL m v).Perm (v :: m) := by
  unfold insL
  have e := List.take_append_drop (insK m v m.length) m
  have h : (m.take (insK m v m.length) ++ [v] ++ m.drop (insK m v m.length)).Perm (v :: (m.take (insK m v m.length) ++ m.drop (insK m v m.length))) := by
    rw [List.append_assoc]
    exact List.perm_middle
  rwa [e] at h
theorem refL_is (l : List Nat) : ∀ m : List Int, (m.Pairwise fun x y => rk x ≤ rk y) → ((l.foldl (fun m x => if nanB x then m else insL m (x : Int)) m).Pairwise fun x y => rk x ≤ rk y) ∧ (l.foldl (fun m x => if nanB x then m else insL m (x : Int)) m).Perm (m ++ (l.filter fun x => !nanB x).map fun (x : Nat) => (x : Int)) := by
  induction l with
  | nil => intro m hm; exact ⟨hm, by simp⟩
  | cons x l ih =>
    intro m hm
    rw [List.foldl_cons]
    cases hn : nanB x with
    | true =>
      obtain ⟨h1, h2⟩ := ih m hm
      refine ⟨by simpa [hn] using h1, ?_⟩
      simpa [hn] using h2
    | false =>
      obtain ⟨h1, h2⟩ := ih (insL m (x : Int)) (insL_pair m _ hm)
      refine ⟨by simpa [hn] using h1, ?_⟩
      have h3 : (insL m (x : Int) ++ (l.filter fun x => !nanB x).map fun (x : Nat) => (x : Int)).Perm (m ++ ((x : Int) :: (l.filter fun x => !nanB x).map fun (x : Nat) => (x : Int))) :=
        ((insL_perm m (x : Int)).append_right _).trans (by simpa using List.perm_middle.symm)
      simpa [hn] using h2.trans h3
theorem refL_srt (l : List Nat) (hb : ∀ x ∈ l, x < 18446744073709551616) : refL l = (srt l).map fun (x : Nat) => (x : Int) := by
  obtain ⟨h1, h2⟩ := refL_is l [] List.Pairwise.nil
  rw [List.nil_append] at h2
  have h3 := (srt_perm l).map fun (x : Nat) => (x : Int)
  have hr : ∀ z ∈ refL l, 0 ≤ z ∧ z < 18446744073709551616 := by
    intro z hz
    obtain ⟨y, hy, rfl⟩ := List.mem_map.1 (h2.mem_iff.1 hz)
    have := hb y (List.mem_filter.1 hy).1
    omega
  refine List.Perm.eq_of_pairwise (le := fun x y : Int => rk x ≤ rk y) ?_ h1 ?_ (h2.trans h3.symm)
  · intro a b ha hb' h4 h5
    have q1 := hr a ha
    have q2 := hr b (h2.mem_iff.2 (h3.mem_iff.1 hb'))
    exact rk_inj q1 q2 (by omega)
  · rw [List.pairwise_map]
    exact srt_pair l
theorem refL_len (l : List Nat) (hb : ∀ x ∈ l, x < 18446744073709551616) : (refL l).length = (srt l).length := by rw [refL_srt l hb, List.length_map]
theorem refL_at (l : List Nat) (hb : ∀ x ∈ l, x < 18446744073709551616) (i : Nat) : (refL l).getD i 9221120237041090560 = wd ((srt l).getD i 9221120237041090561) := by
  rw [refL_srt l hb, List.getD_eq_getElem?_getD, List.getD_eq_getElem?_getD, List.getElem?_map]
  by_cases c : i < (srt l).length
  · rw [List.getElem?_eq_getElem c]
    have hm := (srt_perm l).mem_iff.1 (List.getElem_mem c)
    have := (List.mem_filter.1 hm).2
    simp only [Option.map_some, Option.getD_some]
    rw [wd_num (by simpa using this)]
  · rw [List.getElem?_eq_none (by omega)]
    simp only [Option.map_none, Option.getD_none]
    decide
theorem at_w {w : World} {A : Option Addr} {l : List Int} (h : Kd.C (Kd.int .u64) w A l.length l) (i : Int) (h0 : 0 ≤ i) (h1 : i < l.length) (z : Int) : ∃ ad, A = some ad ∧ w.cell? (ad.add i.toNat) = some (.int .u64 (l.getD i.toNat z)) := by
  obtain ⟨ad, h2, h3⟩ := (Kd.reads_of_C (d := z) h).at_ i h0 h1
  exact ⟨ad, h2, h3⟩
set_option maxHeartbeats 1000000 in
theorem rmid_any (A : Option Addr) (c : Nat) (l : List Nat) (w : World) (hr : Kd.C kf w A l.length l) (hl : l.length ≤ 1000) (hb : ∀ x ∈ l, x < 18446744073709551616) :
    Calls Try.prog 16 #[.slice A l.length c] w fun e w' => e = .returned (.int .u64 (wd (midN l))) ∧ Below w.heap.size w w' := by
  have HS := Sh.mk (rsorted_any A c l w hr hl hb)
  have HA := Sh.mk (refL_at l hb (((srt l).length - 1) / 2))
  have hls := refL_len l hb
  have hle : (srt l).length ≤ l.length := by rw [srt_len]; exact List.length_filter_le _ _
  rw [← hls] at hle HA
  unfold midN
  rw [← hls]
  obtain ⟨s, hs⟩ : ∃ s, s = refL l := ⟨_, rfl⟩
  obtain ⟨y, hy⟩ : ∃ y, y = wd ((srt l).getD (((refL l).length - 1) / 2) 9221120237041090561) := ⟨_, rfl⟩
  rw [← hy] at HA ⊢
  rw [← hs] at hle HS HA
  clear hs hr hb hls hy
  go_enter Try.func16, Try.ntmps16
  go_wp2_with fail
  (with_reducible refine HS.out.mono ?_); rintro e w1 ⟨v, rfl, h1, h2⟩
  obtain ⟨A1, c1, e2, hcc, hC⟩ := Kd.R_reads h1
  subst e2
  have HB := Sh.mk h2
  have HC := Sh.mk hC
  clear h1 h2 HS hC
  rcases Nat.eq_zero_or_pos s.length with h0 | h0
  · obtain rfl := List.eq_nil_of_length_eq_zero h0
    have e9 : y = 9221120237041090560 := HA.out.symm
    subst e9
    clear h0 HC hle
    simp only [List.length_nil]
    go_wp2
    go_ret
    exact ⟨rfl, HB.out⟩
  · obtain ⟨ad, rfl, hcell⟩ := at_w HC.out (((s.length : Int) - 1) / 2) (by omega) (by omega) 9221120237041090560
    have e2 : (((s.length : Int) - 1) / 2).toNat = (s.length - 1) / 2 := by omega
    have i0 : 0 ≤ ((s.length : Int) - 1) / 2 := by omega
    have i1 : ((s.length : Int) - 1) / 2 < s.length := by omega
    have hz : ¬ ((s.length : Int) = 0) := by omega
    have hz1 : ((s.length : Int) == 0) = false := beq_eq_false_iff_ne.2 hz
    rw [e2, HA.out] at hcell
    clear HC e2 hz HA
    go_wp2
    go_ret
    exact ⟨rfl, HB.out⟩
set_option maxHeartbeats 1000000 in
theorem rends_any (A : Option Addr) (c : Nat) (l : List Nat) (w : World) (hr : Kd.C kf w A l.length l) (hl : l.length ≤ 1000) (hb : ∀ x ∈ l, x < 18446744073709551616) :
    Calls Try.prog 13 #[.slice A l.length c] w fun e w' => e = .returned (.tuple #[.int .u64 (wd (loN l)), .int .u64 (wd (hiN l))]) ∧ Below w.heap.size w w' := by
  have HS := Sh.mk (rsorted_any A c l w hr hl hb)
  have HA := Sh.mk (refL_at l hb 0)
  have HZ := Sh.mk (refL_at l hb ((srt l).length - 1))
  have hls := refL_len l hb
  have hle : (srt l).length ≤ l.length := by rw [srt_len]; exact List.length_filter_le _ _
  rw [← hls] at hle HZ
  unfold loN hiN
  rw [← hls]
  obtain ⟨s, hs⟩ : ∃ s, s = refL l := ⟨_, rfl⟩
  obtain ⟨y, hy⟩ : ∃ y, y = wd ((srt l).getD 0 9221120237041090561) := ⟨_, rfl⟩
  obtain ⟨z, hz⟩ : ∃ z, z = wd ((srt l).getD ((refL l).length - 1) 9221120237041090561) := ⟨_, rfl⟩
  rw [← hy] at HA ⊢
  rw [← hz] at HZ ⊢
  rw [← hs] at hle HS HA HZ
  clear hs hr hb hls hy hz
  go_enter Try.func13, Try.ntmps13
  go_wp2_with fail
  (with_reducible refine HS.out.mono ?_); rintro e w1 ⟨v, rfl, h1, h2⟩
  obtain ⟨A1, c1, e2, hcc, hC⟩ := Kd.R_reads h1
  subst e2
  have HB := Sh.mk h2
  have HC := Sh.mk hC
  clear h1 h2 HS hC
  rcases Nat.eq_zero_or_pos s.length with h0 | h0
  · obtain rfl := List.eq_nil_of_length_eq_zero h0
    have e9 : y = 9221120237041090560 := HA.out.symm
    have e8 : z = 9221120237041090560 := HZ.out.symm
    subst e9 e8
    clear h0 HC hle
    simp only [List.length_nil]
    go_wp2
    go_ret2
    exact ⟨rfl, HB.out⟩
  · obtain ⟨ad, rfl, hcell⟩ := at_w HC.out ((s.length : Int) - 1) (by omega) (by omega) 9221120237041090560
    obtain ⟨ad', e', hcell0⟩ := at_w HC.out 0 (by omega) (by omega) 9221120237041090560
    cases e'
    have e2 : ((s.length : Int) - 1).toNat = s.length - 1 := by omega
    have i0 : 0 ≤ (s.length : Int) - 1 := by omega
    have i1 : (s.length : Int) - 1 < s.length := by omega
    have hz1 : ((s.length : Int) == 0) = false := beq_eq_false_iff_ne.2 (by omega)
    have hp : 0 < s.length := h0
    rw [Int.toNat_zero, HA.out] at hcell0
    rw [e2, HZ.out] at hcell
    have hcell1 : w1.cell? ad = some (.int .u64 y) := by
      have : ad.add 0 = ad := by unfold Addr.add; split <;> simp_all
      rwa [this] at hcell0
    have hw : IntKind.i64.wrap ((s.length : Int) - 1) = (s.length : Int) - 1 := by rw [IntKind.wrap_i64]; omega
    clear HC e2 hcell0 HA HZ
    go_wp2
    go_quiet (fail)
    go_wp2
    go_ret2
    exact ⟨rfl, by first | exact HB.out | exact below_then HB.out HB.out.size (pw_below_drewN (Below.refl _ _) _)⟩
set_option maxHeartbeats 1000000 in
theorem tallyMids_walk (A0 : Option Addr) (c0 : Nat) (l0 : List Int) (w : World) (hr0 : Kd.C (Kd.int .u64) w A0 l0.length l0) (hc0 : l0.length ≤ c0) (hw0 : ∀ x ∈ l0, (Lit.int .u64 x).wf = true) (y0 : l0.length * 8 ≤ 140737488351232) :
    Calls Try.prog 3 #[.slice A0 l0.length c0] w fun e w' => e = .returned (.bool true) ∧ Below w.heap.size w w' := by
  have HN := Sh.mk (nums_any A0 c0 l0 w hr0 (by omega))
  have hlt := numsL_lt (u64_mem hw0)
  have hlen : (numsL l0).length ≤ 300 := by rw [numsL_len]; omega
  obtain ⟨l, hl⟩ : ∃ l, l = numsL l0 := ⟨_, rfl⟩
  rw [← hl] at HN hlt hlen
  have HLT := Sh.mk hlt
  clear hl hr0 hw0 y0 hlt
  go_enter Try.func3, Try.ntmps3
  go_wp2_with fail
  (with_reducible refine HN.out.mono ?_); rintro e w1 ⟨v, rfl, h1, h2⟩
  obtain ⟨A, c, e2, hcc, hC⟩ := Kd.R_reads h1
  subst e2
  have HB := Sh.mk h2
  have HC := Sh.mk hC
  clear h1 h2 hC HN
  go_wp2_with fail
  (with_reducible refine (ends_any A c l w1 HC.out (by omega) HLT.out).mono ?_); rintro e w2 ⟨rfl, b⟩
  have B2 := Sh.mk b
  clear b
  go_wp2_with fail
  (with_reducible refine (rends_any A c l w2 (Kd.C_below HC.out B2.out) (by omega) HLT.out).mono ?_); rintro e w3 ⟨rfl, b⟩
  have B3 : Sh (Below w1.heap.size w1 w3) := ⟨below_then B2.out B2.out.size b⟩
  clear b
  go_wp2_with fail
  (with_reducible refine (mid_any A c l w3 (Kd.C_below HC.out B3.out) (by omega) HLT.out).mono ?_); rintro e w4 ⟨rfl, b⟩
  have B4 : Sh (Below w1.heap.size w1 w4) := ⟨below_then B3.out B3.out.size b⟩
  clear b
  go_wp2_with fail
  (with_reducible refine (rword_any _ _).mono ?_); rintro e w' ⟨rfl, rfl⟩
  go_wp2_with fail
  (with_reducible refine (rmid_any A c l w4 (Kd.C_below HC.out B4.out) (by omega) HLT.out).mono ?_); rintro e w5 ⟨rfl, b⟩
  have B5 : Sh (Below w1.heap.size w1 w5) := ⟨below_then B4.out B4.out.size b⟩
  clear b
  go_wp2_with fail
  (with_reducible refine (rword_any _ _).mono ?_); rintro e w' ⟨rfl, rfl⟩
  go_wp2_with fail
  (with_reducible refine (rword_any _ _).mono ?_); rintro e w' ⟨rfl, rfl⟩
  go_wp2_with fail
  (with_reducible refine (awake_any _).mono ?_); rintro e w6 ⟨rfl, b⟩
  have B6 : Sh (Below w1.heap.size w1 w6) := ⟨below_then B5.out B5.out.size b⟩
  clear b
  go_wp2
  go_ret
  exact ⟨rfl, below_then HB.out HB.out.size B6.out⟩
end Go.Proofs.Ytojijdfgflcnjaa
