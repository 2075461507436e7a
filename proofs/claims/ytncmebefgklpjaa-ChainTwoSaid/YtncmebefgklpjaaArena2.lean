/- Copy and Slice of an arena, and how one is made: contracts. No statement is proved here. -/
import Derived.Test.YtncmebefgklpjaaArena
import Derived.Test.YtncmebefgklpjaaPrx
namespace Go.Proofs.Ytncmebefgklpjaa
set_option linter.unusedVariables false
open Go.RowKit Go.Proofs.YtncmebefgklpjaaW.PrintWords Go.Proofs.YtncmebefgklpjaaW.PrintLast

set_option maxHeartbeats 400000 in
theorem copy_nil (to_ from_ n : Int) (w : World) :
    Calls Try.prog 16 #[.pointer none, .int .i64 to_, .int .i64 from_, .int .i64 n] w fun e w' => e = .returned (.int .i64 2) ∧ w = w' := by
  go_enter Try.func16, Try.ntmps16
  go_wp2_with (first | (go_at_call 38; (with_reducible refine (part_nil _ _ _).mono ?_); rintro e w' ⟨rfl, rfl⟩))
  go_ret
  exact ⟨rfl, rfl⟩
set_option maxHeartbeats 400000 in
theorem copy_out (ga gb : Nat) (m : List Int) (to_ from_ n : Int) (w : World) (h : Ar w ga gb m) (ht : ¬ (There m.length to_ n ∧ There m.length from_ n)) :
    Calls Try.prog 16 #[.pointer (some ⟨ga, 0, none⟩), .int .i64 to_, .int .i64 from_, .int .i64 n] w fun e w' => e = .returned (.int .i64 1) ∧ w = w' := by
  have HA := Sh.mk h
  have PI := fun (a k : Int) (hk : There m.length a k) (w : World) (h : Ar w ga gb m) => part_in ga gb m a k w h hk
  by_cases h1 : There m.length to_ n
  · have h2 : ¬ There m.length from_ n := fun h2 => ht ⟨h1, h2⟩
    have H1 := Sh.mk h1
    have H2 := Sh.mk h2
    clear ht h1 h2 h PI
    go_enter Try.func16, Try.ntmps16
    go_wp2_with fail
    (with_reducible refine (part_in ga gb m _ _ _ HA.out H1.out).mono ?_); rintro e w' ⟨⟨A, c, rfl, _⟩, rfl⟩
    go_wp2_with fail
    (with_reducible refine (part_out ga gb m _ _ _ HA.out H2.out).mono ?_); rintro e w' ⟨rfl, rfl⟩
    go_wp2
    go_ret
    exact ⟨rfl, rfl⟩
  · have H1 := Sh.mk h1
    by_cases h2 : There m.length from_ n
    · have H2 := Sh.mk h2
      clear ht h1 h2 h PI
      go_enter Try.func16, Try.ntmps16
      go_wp2_with fail
      (with_reducible refine (part_out ga gb m _ _ _ HA.out H1.out).mono ?_); rintro e w' ⟨rfl, rfl⟩
      go_wp2_with fail
      (with_reducible refine (part_in ga gb m _ _ _ HA.out H2.out).mono ?_); rintro e w' ⟨⟨A, c, rfl, _⟩, rfl⟩
      go_wp2
      go_ret
      exact ⟨rfl, rfl⟩
    · have H2 := Sh.mk h2
      clear ht h1 h2 h PI
      go_enter Try.func16, Try.ntmps16
      go_wp2_with fail
      (with_reducible refine (part_out ga gb m _ _ _ HA.out H1.out).mono ?_); rintro e w' ⟨rfl, rfl⟩
      go_wp2_with fail
      (with_reducible refine (part_out ga gb m _ _ _ HA.out H2.out).mono ?_); rintro e w' ⟨rfl, rfl⟩
      go_wp2
      go_ret
      exact ⟨rfl, rfl⟩

/-- The words behind a copy. -/
def copyM (m : List Int) (t f n : Nat) : List Int := splice m t ((m.drop f).take n)
theorem copyM_len (m : List Int) (t f n : Nat) (ht : t + n ≤ m.length) (hf : f + n ≤ m.length) : (copyM m t f n).length = m.length := by
  unfold copyM; rw [length_splice]; simp; omega
theorem copyM_at (m : List Int) (t f n i : Nat) (ht : t + n ≤ m.length) (hf : f + n ≤ m.length) (hi : i < m.length) : rd0 (copyM m t f n) i = if t ≤ i ∧ i < t + n then rd0 m (f + i - t) else rd0 m i := by
  have hl : ((m.drop f).take n).length = n := by simp; omega
  unfold copyM splice rd0
  rw [hl]
  by_cases h1 : i < t
  · rw [if_neg (by omega)]
    rw [List.getD_eq_getElem?_getD, List.getElem?_append_left (by simp; omega), List.getElem?_take, if_pos h1, List.getD_eq_getElem?_getD]
  · have h1' : (m.take t).length = t := by simp; omega
    rw [List.getD_eq_getElem?_getD, List.getElem?_append_right (by omega), h1']
    by_cases h2 : i < t + n
    · rw [if_pos (by omega), List.getElem?_append_left (by omega), List.getElem?_take, if_pos (by omega), List.getElem?_drop, List.getD_eq_getElem?_getD, show f + (i - t) = f + i - t from by omega]
    · rw [if_neg (by omega), List.getElem?_append_right (by omega), hl, List.getElem?_drop, List.getD_eq_getElem?_getD, show t + n + (i - t - n) = i from by omega]

set_option maxHeartbeats 1000000 in
theorem copy_in (ga gb : Nat) (m : List Int) (to_ from_ n : Int) (w : World) (h : Ar w ga gb m) (h1 : There m.length to_ n) (h2 : There m.length from_ n) :
    Calls Try.prog 16 #[.pointer (some ⟨ga, 0, none⟩), .int .i64 to_, .int .i64 from_, .int .i64 n] w fun e w' => e = .returned (.int .i64 0) ∧ Ar w' ga gb (copyM m to_.toNat from_.toNat n.toNat) ∧ Kp [gb] w w' := by
  have HA := Sh.mk h
  have H1 := Sh.mk h1
  have H2 := Sh.mk h2
  clear h1 h2 h
  go_enter Try.func16, Try.ntmps16
  go_wp2_with fail
  (with_reducible refine (part_in ga gb m _ _ _ HA.out H1.out).mono ?_); rintro e w' ⟨⟨A, c, rfl, hA1, hA2, hA3⟩, rfl⟩
  have G1 := Sh.mk hA1
  clear hA1
  go_wp2_with fail
  (with_reducible refine (part_in ga gb m _ _ _ HA.out H2.out).mono ?_); rintro e w' ⟨⟨A', c', rfl, hB1, hB2, hB3⟩, rfl⟩
  have G2 := Sh.mk hB1
  clear hB1
  have hlen : ((m.drop from_.toNat).take n.toNat).length = n.toNat := by
    obtain ⟨a, b, c, d⟩ := H2.out
    simp; omega
  obtain ⟨cs, hcs⟩ : ∃ cs, cs = ((m.drop from_.toNat).take n.toNat).map (Value.int .u64) := ⟨_, rfl⟩
  have hcl : cs.length = n.toNat := by rw [hcs, List.length_map, hlen]
  have P1 : Sh (cs.length = Nat.min n.toNat n.toNat) := ⟨by rw [hcl]; exact (Nat.min_self _).symm⟩
  have P2 : Sh (0 < cs.length → A = some ⟨gb, to_.toNat, none⟩ ∧ ∃ ad, A' = some ad ∧ ∀ j v, cs[j]? = some v → w.cell? (ad.add j) = some v) := by
    refine ⟨fun hn => ⟨G1.out (by omega), _, G2.out (by omega), fun j v hv => ?_⟩⟩
    have hj : j < n.toNat := by
      have := (List.getElem?_eq_some_iff.1 hv).1
      omega
    obtain ⟨a, b, c, d⟩ := H2.out
    have e1 : (⟨gb, from_.toNat, none⟩ : Addr).add j = ⟨gb, from_.toNat + j, none⟩ := by unfold Addr.add; split <;> simp_all
    rw [e1, HA.out.at_ _ (by omega), rd0_get m _ (by omega)]
    rw [hcs, List.getElem?_map, List.getElem?_take, if_pos hj, List.getElem?_drop, List.getElem?_eq_getElem (by omega)] at hv
    simpa using hv
  have P3 : Sh (to_.toNat + cs.length ≤ (m.map (Value.int .u64)).length) := ⟨by obtain ⟨a, b, c, d⟩ := H1.out; simp only [List.length_map]; omega⟩
  have P4 : Sh (∀ v ∈ cs, v.oneCell' = true) := ⟨fun v hv => by rw [hcs] at hv; obtain ⟨x, _, rfl⟩ := List.mem_map.1 hv; rfl⟩
  obtain ⟨cur, hcur⟩ : ∃ cur, cur = m.map (Value.int .u64) := ⟨_, rfl⟩
  rw [← hcur] at P3
  have P5 : Sh (Blk w gb 28 cur.toArray) := ⟨by rw [hcur]; exact HA.out.ws⟩
  have HCS := Sh.mk hcs
  have HCUR := Sh.mk hcur
  clear hcs hcur hcl hlen
  go_wp2_with (first | ((with_reducible refine wpList_copy_blk rfl (.tmp 32) (.tmp 33) 22 22 rfl 28 Try.underlying22 ?ck A A' n.toNat c n.toNat c' rfl rfl gb to_.toNat cur 28 P5.out cs P1.out P2.out P3.out P4.out ?_); (case ck => kernel_rfl); intro w' hb hk; have HB := Sh.mk hb; have HK := Sh.mk hk; clear hb hk))
  go_ret
  refine ⟨rfl, ⟨?_, ?_, ?_⟩, HK.out⟩
  · obtain ⟨a, b, c, d⟩ := H1.out
    obtain ⟨a', b', c', d'⟩ := H2.out
    rw [copyM_len m _ _ _ (by omega) (by omega)]
    exact HA.out.st.kp HK.out (by simpa using HA.out.ne)
  · have := HB.out
    rw [HCS.out, HCUR.out, splice_map] at this
    exact this
  · obtain ⟨a, b, c, d⟩ := H1.out
    obtain ⟨a', b', c', d'⟩ := H2.out
    rw [copyM_len m _ _ _ (by omega) (by omega)]
    exact HA.out.small

set_option maxHeartbeats 400000 in
theorem new_no (n : Int) (w : World) (h : n < 1 ∨ 256 < n) :
    Calls Try.prog 21 #[.int .i64 n] w fun e w' => e = .returned (.pointer none) ∧ w = w' := by
  by_cases h1 : n < 1
  · clear h
    go_enter Try.func21, Try.ntmps21
    go_wp2
    go_ret
    exact ⟨rfl, rfl⟩
  · have h2 : 256 < n := by omega
    have h3 : 1 ≤ n := by omega
    clear h h1
    go_enter Try.func21, Try.ntmps21
    go_wp2
    go_ret
    exact ⟨rfl, rfl⟩

/-- A new arena of n pages. -/
def NewAr (n : Nat) (w : World) (e : Ending) (w' : World) : Prop :=
  ∃ ga gb, e = .returned (.pointer (some ⟨ga, 0, none⟩)) ∧ Ar w' ga gb (List.replicate (n * 64) 0) ∧ w.heap.size ≤ ga ∧ w.heap.size ≤ gb ∧ Below w.heap.size w w'
set_option maxHeartbeats 400000 in
theorem new_any (n : Int) (w : World) (h0 : 1 ≤ n) (h1 : n ≤ 256) :
    Calls Try.prog 21 #[.int .i64 n] w (NewAr n.toNat w) := by
  have hmk := fun w => run_make_u64 (n * 64) (by omega) (by omega) w
  have he : (n * 64).toNat = n.toNat * 64 := by omega
  have HE := Sh.mk he
  clear he
  go_enter Try.func21, Try.ntmps21
  go_wp2
  go_ret
  refine ⟨w.heap.size + 1, w.heap.size, rfl, ⟨?_, ?_, ?_⟩, by omega, by omega, ((Below.refl _ _).alloc (Nat.le_refl _) _).alloc (by simp) _⟩
  · rw [List.length_replicate, ← HE.out]
    exact Blk.new_ _ _ _ (by simp)
  · rw [← HE.out]
    exact (Blk.new _ _ _).alloc _
  · rw [List.length_replicate]
    omega

/-- What Slice hands back: words of its own. -/
def IsRow64 (l : List Int) (c : Int) (w : World) (e : Ending) (w' : World) : Prop :=
  ∃ v, e = .returned (.tuple #[v, .int .i64 c]) ∧ Kd.R (Kd.int .u64) 28 w' w.heap.size (fun _ => True) v l ∧ Below w.heap.size w w'
set_option maxHeartbeats 400000 in
theorem slice_nil (at_ n : Int) (w : World) :
    Calls Try.prog 24 #[.pointer none, .int .i64 at_, .int .i64 n] w (IsRow64 [] 2 w) := by
  have HC := Sh.mk (Pr.slices_Clone_uint64_uint64.calls none 0 [] [] w ⟨rfl, by simp, fun h => absurd h (by simp)⟩ (by simp) (by simp [Pr.slices_Clone_uint64_uint64.f]))
  go_enter Try.func24, Try.ntmps24
  go_wp2_with fail
  (with_reducible refine (part_nil _ _ _).mono ?_); rintro e w' ⟨rfl, rfl⟩
  go_wp2_with fail
  refine HC.out.mono ?_; rintro e w' ⟨v, rfl, h1, h2⟩
  have H1 := Sh.mk h1
  have H2 := Sh.mk h2
  clear h1 h2
  go_wp2
  go_ret2
  exact ⟨v, rfl, H1.out, H2.out⟩
set_option maxHeartbeats 400000 in
theorem slice_out (ga gb : Nat) (m : List Int) (at_ n : Int) (w : World) (h : Ar w ga gb m) (ht : ¬ There m.length at_ n) :
    Calls Try.prog 24 #[.pointer (some ⟨ga, 0, none⟩), .int .i64 at_, .int .i64 n] w (IsRow64 [] 1 w) := by
  have HC := Sh.mk (Pr.slices_Clone_uint64_uint64.calls none 0 [] [] w ⟨rfl, by simp, fun h => absurd h (by simp)⟩ (by simp) (by simp [Pr.slices_Clone_uint64_uint64.f]))
  have HT := Sh.mk ht
  clear ht
  go_enter Try.func24, Try.ntmps24
  go_wp2_with fail
  (with_reducible refine (part_out ga gb m _ _ _ h HT.out).mono ?_); rintro e w' ⟨rfl, rfl⟩
  go_wp2_with fail
  refine HC.out.mono ?_; rintro e w' ⟨v, rfl, h1, h2⟩
  have H1 := Sh.mk h1
  have H2 := Sh.mk h2
  clear h1 h2
  go_wp2
  go_ret2
  exact ⟨v, rfl, H1.out, H2.out⟩
set_option maxHeartbeats 400000 in
theorem slice_in (ga gb : Nat) (m : List Int) (at_ n : Int) (w : World) (h : Ar w ga gb m) (ht : There m.length at_ n) :
    Calls Try.prog 24 #[.pointer (some ⟨ga, 0, none⟩), .int .i64 at_, .int .i64 n] w (IsRow64 ((m.drop at_.toNat).take n.toNat) 0 w) := by
  have hs := h.small
  have hl : ((m.drop at_.toNat).take n.toNat).length = n.toNat := by
    obtain ⟨a, b, c, d⟩ := ht
    simp; omega
  have HC : Sh (∀ A c, (0 < n → A = some ⟨gb, at_.toNat, none⟩) → n.toNat ≤ c → Calls Try.prog 40 #[.slice A n.toNat c] w fun e w' => ∃ v0_ : Value, e = .returned (v0_) ∧ Kd.R (Kd.int .u64) 28 w' w.heap.size (fun _ => True) v0_ ((m.drop at_.toNat).take n.toNat) ∧ Below w.heap.size w w') := by
    refine ⟨fun A c hA hc => ?_⟩
    have := Pr.slices_Clone_uint64_uint64.calls A c ((m.drop at_.toNat).take n.toNat) _ w (C_blk h.ws A at_.toNat n.toNat (fun hn => hA (by omega)) (by obtain ⟨a, b, c, d⟩ := ht; omega) (by omega)) (by omega) (by unfold Pr.slices_Clone_uint64_uint64.f; rw [if_pos (by obtain ⟨a, b, c, d⟩ := ht; omega)])
    rw [hl] at this
    exact this
  have HT := Sh.mk ht
  have HA := Sh.mk h
  clear ht hl h
  go_enter Try.func24, Try.ntmps24
  go_wp2_with fail
  (with_reducible refine (part_in ga gb m _ _ _ HA.out HT.out).mono ?_); rintro e w' ⟨⟨A, c, rfl, hA1, hA2, hA3⟩, rfl⟩
  have HC1 := Sh.mk (HC.out A c hA1 hA3)
  clear hA1 HC
  go_wp2_with fail
  refine HC1.out.mono ?_; rintro e w' ⟨v, rfl, h1, h2⟩
  have H1 := Sh.mk h1
  have H2 := Sh.mk h2
  clear h1 h2
  go_wp2
  go_ret2
  exact ⟨v, rfl, H1.out, H2.out⟩
end Go.Proofs.Ytncmebefgklpjaa
