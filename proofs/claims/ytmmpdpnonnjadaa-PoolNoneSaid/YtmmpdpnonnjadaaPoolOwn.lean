/- A pool of the statement's own, beside other blocks; its calls; calls of no pool, without an arena; the document's example. No statement is proved here. -/
import Derived.Test.YtmmpdpnonnjadaaPoolAdd3
namespace Go.Proofs.Ytmmpdpnonnjadaa
set_option linter.unusedVariables false
set_option linter.unusedSimpArgs false
open Go.RowKit Go.Proofs.YtmmpdpnonnjadaaW.PrintWords Go.Proofs.YtmmpdpnonnjadaaW.PrintLast Go.Proofs.YtmmpdpnonnjadaaW.PrintMore Pr

/-- A pool made since w, whose blocks are none of X. -/
def Own (w : World) (X : Nat → Prop) (ga gp : Nat) (c : Int) (N : Nat) (Ps : List Pt) (W : World) : Prop :=
  ∃ F, PSt F ga gp c N Ps W ∧ (∀ k, F k → w.heap.size ≤ k) ∧ Below w.heap.size w W ∧ ∀ k, X k → ¬ F k ∧ k < W.heap.size
section
variable {w W W' : World} {X X' : Nat → Prop} {ga gp : Nat} {c : Int} {N : Nat} {Ps Ps' : List Pt}
theorem Own.bl (h : Own w X ga gp c N Ps W) : Below w.heap.size w W := by obtain ⟨F, _, _, h3, _⟩ := h; exact h3
theorem Own.good (h : Own w X ga gp c N Ps W) : Good c N Ps := by obtain ⟨F, h1, _⟩ := h; exact h1.good
theorem Own.cls (h : Own w X ga gp c N Ps W) : (0 ≤ c ∧ c ≤ 3) ∧ (1 ≤ N ∧ N ≤ 256) := by obtain ⟨F, h1, _⟩ := h; exact h1.cls
theorem Own.below (h : Own w X ga gp c N Ps W) (hb : Below W.heap.size W W') : Own w X ga gp c N Ps W' := by
  obtain ⟨F, h1, h2, h3, h4⟩ := h
  exact ⟨F, h1.below hb, h2, below_step h3 hb, fun k hk => ⟨(h4 k hk).1, Nat.lt_of_lt_of_le (h4 k hk).2 hb.size⟩⟩
theorem Own.less (h : Own w X ga gp c N Ps W) (hx : ∀ k, X' k → X k) : Own w X' ga gp c N Ps W := by
  obtain ⟨F, h1, h2, h3, h4⟩ := h
  exact ⟨F, h1, h2, h3, fun k hk => h4 k (hx k hk)⟩
/-- Stores into X's blocks, and new blocks, which may be X's. -/
theorem Own.step (h : Own w X ga gp c N Ps W) (hk : ∀ k, k < W.heap.size → ¬ X k → W'.heap[k]? = W.heap[k]?) (hb : Below w.heap.size w W') (hs : W.heap.size ≤ W'.heap.size) (hx : ∀ k, X' k → X k ∨ (W.heap.size ≤ k ∧ k < W'.heap.size)) : Own w X' ga gp c N Ps W' := by
  obtain ⟨F, h1, h2, h3, h4⟩ := h
  refine ⟨F, h1.keep (fun k hf => hk k (h1.bound k hf) (fun hm => (h4 k hm).1 hf)) hs, h2, hb, fun k hm => ?_⟩
  rcases hx k hm with h5 | ⟨h5, h6⟩
  · exact ⟨(h4 k h5).1, Nat.lt_of_lt_of_le (h4 k h5).2 hs⟩
  · exact ⟨fun hf => by have := h1.bound k hf; omega, h6⟩
theorem Own.aft {F : Nat → Prop} (h2 : ∀ k, F k → w.heap.size ≤ k) (h3 : Below w.heap.size w W) (h4 : ∀ k, X k → ¬ F k ∧ k < W.heap.size) (ha : Aft F ga gp c N Ps W W') : Own w X ga gp c N Ps W' ∧ ∀ k, X k → W'.heap[k]? = W.heap[k]? := by
  obtain ⟨F', a1, a2, a3⟩ := ha
  refine ⟨⟨F', a1, fun k hk => ?_, h3.trans (a3.toBelow h3.size h2), fun k hk => ⟨fun hf => ?_, Nat.lt_of_lt_of_le (h4 k hk).2 a3.size⟩⟩, fun k hk => a3.block k (h4 k hk).2 (h4 k hk).1⟩
  · rcases a2 k hk with h5 | h5
    · exact h2 k h5
    · have := h3.size; omega
  · rcases a2 k hf with h5 | h5
    · exact (h4 k hk).1 h5
    · have := (h4 k hk).2; omega
theorem own_add (h : Own w X ga gp c N Ps W) (page : Int) (hpb : -9223372036854775808 ≤ page ∧ page ≤ 9223372036854775807) :
    Calls Try.prog 11 #[.pointer (some ⟨gp, 0, none⟩), .pointer (some ⟨ga, 0, none⟩), .int .i64 page] W fun e w' => e = .returned (.int .i64 (addP c N Ps page).2) ∧ Own w X ga gp c N (addP c N Ps page).1 w' ∧ ∀ k, X k → w'.heap[k]? = W.heap[k]? := by
  obtain ⟨F, h1, h2, h3, h4⟩ := h
  exact (add_pool h1 page hpb).mono fun e w' ⟨he, ha⟩ => ⟨he, Own.aft h2 h3 h4 ha⟩
theorem own_take (h : Own w X ga gp c N Ps W) :
    Calls Try.prog 12 #[.pointer (some ⟨gp, 0, none⟩), .pointer (some ⟨ga, 0, none⟩)] W fun e w' => e = .returned (.tuple #[.int .i64 (takeR Ps).2.1, .int .i64 (takeR Ps).2.2]) ∧ Own w X ga gp c N (takeR Ps).1 w' ∧ ∀ k, X k → w'.heap[k]? = W.heap[k]? := by
  obtain ⟨F, h1, h2, h3, h4⟩ := h
  exact (take_pool h1).mono fun e w' ⟨he, ha⟩ => ⟨he, Own.aft h2 h3 h4 ha⟩
theorem own_put (h : Own w X ga gp c N Ps W) (a : Int) :
    Calls Try.prog 13 #[.pointer (some ⟨gp, 0, none⟩), .pointer (some ⟨ga, 0, none⟩), .int .i64 a] W fun e w' => e = .returned (.tuple #[.int .i64 (putP c Ps a).2.1, .bool (putP c Ps a).2.2.1, .int .i64 (putP c Ps a).2.2.2]) ∧ Own w X ga gp c N (putP c Ps a).1 w' ∧ ∀ k, X k → w'.heap[k]? = W.heap[k]? := by
  obtain ⟨F, h1, h2, h3, h4⟩ := h
  exact (put_pool h1 a).mono fun e w' ⟨he, ha⟩ => ⟨he, Own.aft h2 h3 h4 ha⟩
theorem own_len (h : Own w X ga gp c N Ps W) : Calls Try.prog 14 #[.pointer (some ⟨gp, 0, none⟩)] W fun e w' => e = .returned (.int .i64 (tot Ps : Nat)) ∧ Below W.heap.size W w' := by
  obtain ⟨F, h1, _⟩ := h; exact len_pool h1
theorem own_spans (h : Own w X ga gp c N Ps W) : Calls Try.prog 17 #[.pointer (some ⟨gp, 0, none⟩)] W fun e w' => ∃ v, e = .returned v ∧ Kd.R k42 42 w' W.heap.size (fun _ => True) v (partsP Ps) ∧ Below W.heap.size W w' := by
  obtain ⟨F, h1, _⟩ := h; exact spans_pool h1
theorem own_free (h : Own w X ga gp c N Ps W) : Calls Try.prog 16 #[.pointer (some ⟨gp, 0, none⟩), .pointer (some ⟨ga, 0, none⟩)] W fun e w' => ∃ v, e = .returned v ∧ Kd.R (Kd.int .i64) 3 w' W.heap.size (fun _ => True) v (freeP Ps) ∧ Below W.heap.size W w' := by
  obtain ⟨F, h1, _⟩ := h; exact free_pool h1
/-- Made: an arena, then a pool. -/
theorem own_made {w1 w2 : World} {ga gb n : Nat} (ar : Ar w1 ga gb (List.replicate (n * 64) 0)) (h1 : w.heap.size ≤ ga) (h2 : w.heap.size ≤ gb) (hb1 : Below w.heap.size w w1) (hp : Blk w2 gp 61 #[.int .i64 c, .slice none 0 0]) (h3 : w1.heap.size ≤ gp) (hb2 : Below w1.heap.size w1 w2) (hc : 0 ≤ c ∧ c ≤ 3) (hn : 1 ≤ n ∧ n ≤ 256) :
    Own w (fun _ => False) ga gp c n [] w2 :=
  ⟨_, PSt.nil (ar.kp (Kp.of_below hb2 []) (by simp) (by simp)) (by simp) hp hc hn, fun k hk => by
    have := hb1.size
    rcases hk with rfl | rfl | rfl <;> omega, below_step hb1 hb2, fun k hk => hk.elim⟩
end
/-! ### no pool, no arena -/
set_option maxHeartbeats 400000 in
theorem add_nil (q : Option Addr) (page : Int) (w : World) : Calls Try.prog 11 #[.pointer none, .pointer q, .int .i64 page] w fun e w' => e = .returned (.int .i64 2) ∧ w = w' := by
  go_enter Try.func11, Try.ntmps11
  go_wp2
  go_ret
  exact ⟨rfl, rfl⟩
set_option maxHeartbeats 400000 in
theorem add_nil2 (p : Addr) (page : Int) (w : World) : Calls Try.prog 11 #[.pointer (some p), .pointer none, .int .i64 page] w fun e w' => e = .returned (.int .i64 2) ∧ w = w' := by
  go_enter Try.func11, Try.ntmps11
  go_wp2
  go_ret
  exact ⟨rfl, rfl⟩
set_option maxHeartbeats 400000 in
theorem take_nil (q : Option Addr) (w : World) : Calls Try.prog 12 #[.pointer none, .pointer q] w fun e w' => e = .returned (.tuple #[.int .i64 0, .int .i64 2]) ∧ w = w' := by
  go_enter Try.func12, Try.ntmps12
  go_wp2
  go_ret2
  exact ⟨rfl, rfl⟩
set_option maxHeartbeats 400000 in
theorem take_nil2 (p : Addr) (w : World) : Calls Try.prog 12 #[.pointer (some p), .pointer none] w fun e w' => e = .returned (.tuple #[.int .i64 0, .int .i64 2]) ∧ w = w' := by
  go_enter Try.func12, Try.ntmps12
  go_wp2
  go_ret2
  exact ⟨rfl, rfl⟩
set_option maxHeartbeats 400000 in
theorem put_nil (q : Option Addr) (a : Int) (w : World) : Calls Try.prog 13 #[.pointer none, .pointer q, .int .i64 a] w fun e w' => e = .returned (.tuple #[.int .i64 0, .bool false, .int .i64 2]) ∧ w = w' := by
  go_enter Try.func13, Try.ntmps13
  go_wp2
  go_ret3
  exact ⟨rfl, rfl⟩
set_option maxHeartbeats 400000 in
theorem put_nil2 (p : Addr) (a : Int) (w : World) : Calls Try.prog 13 #[.pointer (some p), .pointer none, .int .i64 a] w fun e w' => e = .returned (.tuple #[.int .i64 0, .bool false, .int .i64 2]) ∧ w = w' := by
  go_enter Try.func13, Try.ntmps13
  go_wp2
  go_ret3
  exact ⟨rfl, rfl⟩
set_option maxHeartbeats 400000 in
theorem spans_nil (w : World) : Calls Try.prog 17 #[.pointer none] w fun e w' => e = .returned (.slice none 0 0) ∧ w = w' := by
  go_enter Try.func17, Try.ntmps17
  go_wp2
  go_ret
  exact ⟨rfl, rfl⟩
set_option maxHeartbeats 400000 in
theorem len_pnil (w : World) : Calls Try.prog 14 #[.pointer none] w fun e w' => e = .returned (.int .i64 0) ∧ w = w' := by
  go_enter Try.func14, Try.ntmps14
  go_wp2
  go_ret
  exact ⟨rfl, rfl⟩
set_option maxHeartbeats 400000 in
theorem free_nil (q : Option Addr) (w : World) : Calls Try.prog 16 #[.pointer none, .pointer q] w fun e w' => e = .returned (.slice none 0 0) ∧ w = w' := by
  go_enter Try.func16, Try.ntmps16
  go_wp2
  go_ret
  exact ⟨rfl, rfl⟩
set_option maxHeartbeats 400000 in
theorem free_nil2 (p : Addr) (w : World) : Calls Try.prog 16 #[.pointer (some p), .pointer none] w fun e w' => e = .returned (.slice none 0 0) ∧ w = w' := by
  go_enter Try.func16, Try.ntmps16
  go_wp2
  go_ret
  exact ⟨rfl, rfl⟩
/-! ### the document's example -/
set_option maxHeartbeats 4000000 in
theorem awake_pool (w : World) : Calls Try.prog 15 #[] w fun e w' => e = .returned (.bool true) ∧ Below w.heap.size w w' := by
  have HW := Sh.mk (Below.refl w.heap.size w)
  go_enter Try.func15, Try.ntmps15
  go_wp2_with fail
  (with_reducible refine (new_any 8 w (by omega) (by omega)).mono ?_); rintro e w1 ⟨ga, gb, rfl, har, hg1, hg2, hb1⟩
  go_wp2_with fail
  (with_reducible refine (new_pool 3 w1 (by omega)).mono ?_); rintro e w2 ⟨gp, rfl, hp, hg3, hb2⟩
  have HO := Sh.mk (own_made har hg1 hg2 hb1 hp hg3 hb2 (by omega) (by omega))
  clear har hg1 hg2 hb1 hp hg3 hb2
  go_wp2_with fail
  (with_reducible refine (own_add HO.out 0 (by omega)).mono ?_); rintro e w3 ⟨rfl, ho, -⟩
  have e3 : addP 3 (8 : Int).toNat [] 0 = ([⟨0, [0, 256]⟩], 0) := by
    unfold addP; rw [if_neg (by omega)]; rfl
  rw [e3] at ho ⊢
  have HO3 := Sh.mk ho
  clear ho HO e3
  go_wp2_with fail
  (with_reducible refine (own_take HO3.out).mono ?_); rintro e w4 ⟨rfl, ho, -⟩
  have HO4 : Sh (Own w (fun _ => False) ga gp 3 (8 : Int).toNat [⟨0, [256]⟩] w4) := ⟨ho⟩
  rw [show takeR [⟨0, [0, 256]⟩] = ([⟨0, [256]⟩], 0, 0) from rfl]
  clear ho HO3
  go_wp2_with fail
  (with_reducible refine (own_take HO4.out).mono ?_); rintro e w5 ⟨rfl, ho, -⟩
  have HO5 : Sh (Own w (fun _ => False) ga gp 3 (8 : Int).toNat [⟨0, []⟩] w5) := ⟨ho⟩
  rw [show takeR [⟨0, [256]⟩] = ([⟨0, []⟩], 256, 0) from rfl]
  clear ho HO4
  go_wp2_with fail
  (with_reducible refine (own_take HO5.out).mono ?_); rintro e w6 ⟨rfl, ho, -⟩
  have HO6 : Sh (Own w (fun _ => False) ga gp 3 (8 : Int).toNat [⟨0, []⟩] w6) := ⟨ho⟩
  rw [show takeR [⟨0, []⟩] = ([⟨0, []⟩], 0, 2) from rfl]
  clear ho HO5
  go_wp2_with fail
  (with_reducible refine (own_put HO6.out 0).mono ?_); rintro e w7 ⟨rfl, ho, -⟩
  have HB7 := Sh.mk ho.bl
  rw [show putP 3 [⟨0, []⟩] 0 = ([⟨0, [0]⟩], 0, false, 0) from rfl]
  clear ho HO6
  go_wp2
  go_ret
  exact ⟨rfl, HB7.out⟩
end Go.Proofs.Ytmmpdpnonnjadaa
