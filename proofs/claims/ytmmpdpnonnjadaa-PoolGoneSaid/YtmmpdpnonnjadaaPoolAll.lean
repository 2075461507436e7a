/- A pool of the statement's own, beside other blocks; its calls; calls of no pool, without an arena; the document's example; what the statements share. No statement is proved here. -/
import Derived.Test.YtmmpdpnonnjadaaPoolAdd3
namespace Go.Proofs.Ytmmpdpnonnjadaa
set_option linter.unusedVariables false
set_option linter.unusedSimpArgs false
open Go.RowKit Go.Proofs.YtmmpdpnonnjadaaW.PrintWords Go.Proofs.YtmmpdpnonnjadaaW.PrintLast Go.Proofs.YtmmpdpnonnjadaaW.PrintMore Pr

/-- A pool made since w, whose blocks are none of X. -/
def Own (w : World) (X : Nat → Prop) (ga gp : Nat) (c : Int) (N : Nat) (Ps : List Pt) (W : World) : Prop :=
  ∃ F, PSt F ga gp c N Ps W ∧ (∀ k, F k → w.heap.size ≤ k) ∧ Below w.heap.size w W ∧ ∀ k, X k → ¬ F k ∧ k < W.heap.size
section
variable {w W W' : World} {X X' : Nat → Prop} {ga gp : Nat} {c : Int} {N : Nat} {Ps Ps' : List Pt}
theorem Own.bl (h : Own w X ga gp c N Ps W) : Below w.heap.size w W := by obtain ⟨F, _, _, h3, _⟩ := h; exact h3
theorem Own.good (h : Own w X ga gp c N Ps W) : Good c N Ps := by obtain ⟨F, h1, _⟩ := h; exact h1.good
theorem Own.cls (h : Own w X ga gp c N Ps W) : (0 ≤ c ∧ c ≤ 3) ∧ (1 ≤ N ∧ N ≤ 256) := by obtain ⟨F, h1, _⟩ := h; exact h1.cls
theorem Own.below (h : Own w X ga gp c N Ps W) (hb : Below W.heap.size W W') : Own w X ga gp c N Ps W' := by
  obtain ⟨F, h1, h2, h3, h4⟩ := h
  exact ⟨F, h1.below hb, h2, below_step h3 hb, fun k hk => ⟨(h4 k hk).1, Nat.lt_of_lt_of_le (h4 k hk).2 hb.size⟩⟩
theorem Own.less (h : Own w X ga gp c N Ps W) (hx : ∀ k, X' k → X k) : Own w X' ga gp c N Ps W := by
  obtain ⟨F, h1, h2, h3, h4⟩ := h
  exact ⟨F, h1, h2, h3, fun k hk => h4 k (hx k hk)⟩
/-- Stores into X's blocks, and new blocks, which may be X's. -/
theorem Own.step (h : Own w X ga gp c N Ps W) (hk : ∀ k, k < W.heap.size → ¬ X k → W'.heap[k]? = W.heap[k]?) (hb : Below w.heap.size w W') (hs : W.heap.size ≤ W'.heap.size) (hx : ∀ k, X' k → X k ∨ (W.heap.size ≤ k ∧ k < W'.heap.size)) : Own w X' ga gp c N Ps W' := by
  obtain ⟨F, h1, h2, h3, h4⟩ := h
  refine ⟨F, h1.keep (fun k hf => hk k (h1.bound k hf) (fun hm => (h4 k hm).1 hf)) hs, h2, hb, fun k hm => ?_⟩
  rcases hx k hm with h5 | ⟨h5, h6⟩
  · exact ⟨(h4 k h5).1, Nat.lt_of_lt_of_le (h4 k h5).2 hs⟩
  · exact ⟨fun hf => by have := h1.bound k hf; omega, h6⟩
theorem Own.aft {F : Nat → Prop} (h2 : ∀ k, F k → w.heap.size ≤ k) (h3 : Below w.heap.size w W) (h4 : ∀ k, X k → ¬ F k ∧ k < W.heap.size) (ha : Aft F ga gp c N Ps W W') : Own w X ga gp c N Ps W' ∧ ∀ k, X k → W'.heap[k]? = W.heap[k]? := by
  obtain ⟨F', a1, a2, a3⟩ := ha
  refine ⟨⟨F', a1, fun k hk => ?_, h3.trans (a3.toBelow h3.size h2), fun k hk => ⟨fun hf => ?_, Nat.lt_of_lt_of_le (h4 k hk).2 a3.size⟩⟩, fun k hk => a3.block k (h4 k hk).2 (h4 k hk).1⟩
  · rcases a2 k hk with h5 | h5
    · exact h2 k h5
    · have := h3.size; omega
  · rcases a2 k hf with h5 | h5
    · exact (h4 k hk).1 h5
    · have := (h4 k hk).2; omega
theorem own_add (h : Own w X ga gp c N Ps W) (page : Int) (hpb : -9223372036854775808 ≤ page ∧ page ≤ 9223372036854775807) :
    Calls Try.prog 11 #[.pointer (some ⟨gp, 0, none⟩), .pointer (some ⟨ga, 0, none⟩), .int .i64 page] W fun e w' => e = .returned (.int .i64 (addP c N Ps page).2) ∧ Own w X ga gp c N (addP c N Ps page).1 w' ∧ ∀ k, X k → w'.heap[k]? = W.heap[k]? := by
  obtain ⟨F, h1, h2, h3, h4⟩ := h
  exact (add_pool h1 page hpb).mono fun e w' ⟨he, ha⟩ => ⟨he, Own.aft h2 h3 h4 ha⟩
theorem own_take (h : Own w X ga gp c N Ps W) :
    Calls Try.prog 12 #[.pointer (some ⟨gp, 0, none⟩), .pointer (some ⟨ga, 0, none⟩)] W fun e w' => e = .returned (.tuple #[.int .i64 (takeR Ps).2.1, .int .i64 (takeR Ps).2.2]) ∧ Own w X ga gp c N (takeR Ps).1 w' ∧ ∀ k, X k → w'.heap[k]? = W.heap[k]? := by
  obtain ⟨F, h1, h2, h3, h4⟩ := h
  exact (take_pool h1).mono fun e w' ⟨he, ha⟩ => ⟨he, Own.aft h2 h3 h4 ha⟩
theorem own_put (h : Own w X ga gp c N Ps W) (a : Int) :
    Calls Try.prog 13 #[.pointer (some ⟨gp, 0, none⟩), .pointer (some ⟨ga, 0, none⟩), .int .i64 a] W fun e w' => e = .returned (.tuple #[.int .i64 (putP c Ps a).2.1, .bool (putP c Ps a).2.2.1, .int .i64 (putP c Ps a).2.2.2]) ∧ Own w X ga gp c N (putP c Ps a).1 w' ∧ ∀ k, X k → w'.heap[k]? = W.heap[k]? := by
  obtain ⟨F, h1, h2, h3, h4⟩ := h
  exact (put_pool h1 a).mono fun e w' ⟨he, ha⟩ => ⟨he, Own.aft h2 h3 h4 ha⟩
theorem own_len (h : Own w X ga gp c N Ps W) : Calls Try.prog 14 #[.pointer (some ⟨gp, 0, none⟩)] W fun e w' => e = .returned (.int .i64 (tot Ps : Nat)) ∧ Below W.heap.size W w' := by
  obtain ⟨F, h1, _⟩ := h; exact len_pool h1
theorem own_spans (h : Own w X ga gp c N Ps W) : Calls Try.prog 17 #[.pointer (some ⟨gp, 0, none⟩)] W fun e w' => ∃ v, e = .returned v ∧ Kd.R k42 42 w' W.heap.size (fun _ => True) v (partsP Ps) ∧ Below W.heap.size W w' := by
  obtain ⟨F, h1, _⟩ := h; exact spans_pool h1
theorem own_free (h : Own w X ga gp c N Ps W) : Calls Try.prog 16 #[.pointer (some ⟨gp, 0, none⟩), .pointer (some ⟨ga, 0, none⟩)] W fun e w' => ∃ v, e = .returned v ∧ Kd.R (Kd.int .i64) 3 w' W.heap.size (fun _ => True) v (freeP Ps) ∧ Below W.heap.size W w' := by
  obtain ⟨F, h1, _⟩ := h; exact free_pool h1
/-- Made: an arena, then a pool. -/
theorem own_made {w1 w2 : World} {ga gb n : Nat} (ar : Ar w1 ga gb (List.replicate (n * 64) 0)) (h1 : w.heap.size ≤ ga) (h2 : w.heap.size ≤ gb) (hb1 : Below w.heap.size w w1) (hp : Blk w2 gp 61 #[.int .i64 c, .slice none 0 0]) (h3 : w1.heap.size ≤ gp) (hb2 : Below w1.heap.size w1 w2) (hc : 0 ≤ c ∧ c ≤ 3) (hn : 1 ≤ n ∧ n ≤ 256) :
    Own w (fun _ => False) ga gp c n [] w2 :=
  ⟨_, PSt.nil (ar.kp (Kp.of_below hb2 []) (by simp) (by simp)) (by simp) hp hc hn, fun k hk => by
    have := hb1.size
    rcases hk with rfl | rfl | rfl <;> omega, below_step hb1 hb2, fun k hk => hk.elim⟩
end
/-! ### no pool, no arena -/
set_option maxHeartbeats 400000 in
theorem add_nil (q : Option Addr) (page : Int) (w : World) : Calls Try.prog 11 #[.pointer none, .pointer q, .int .i64 page] w fun e w' => e = .returned (.int .i64 2) ∧ w = w' := by
  go_enter Try.func11, Try.ntmps11
  go_wp2
  go_ret
  exact ⟨rfl, rfl⟩
set_option maxHeartbeats 400000 in
theorem add_nil2 (p : Addr) (page : Int) (w : World) : Calls Try.prog 11 #[.pointer (some p), .pointer none, .int .i64 page] w fun e w' => e = .returned (.int .i64 2) ∧ w = w' := by
  go_enter Try.func11, Try.ntmps11
  go_wp2
  go_ret
  exact ⟨rfl, rfl⟩
set_option maxHeartbeats 400000 in
theorem take_nil (q : Option Addr) (w : World) : Calls Try.prog 12 #[.pointer none, .pointer q] w fun e w' => e = .returned (.tuple #[.int .i64 0, .int .i64 2]) ∧ w = w' := by
  go_enter Try.func12, Try.ntmps12
  go_wp2
  go_ret2
  exact ⟨rfl, rfl⟩
set_option maxHeartbeats 400000 in
theorem take_nil2 (p : Addr) (w : World) : Calls Try.prog 12 #[.pointer (some p), .pointer none] w fun e w' => e = .returned (.tuple #[.int .i64 0, .int .i64 2]) ∧ w = w' := by
  go_enter Try.func12, Try.ntmps12
  go_wp2
  go_ret2
  exact ⟨rfl, rfl⟩
set_option maxHeartbeats 400000 in
theorem put_nil (q : Option Addr) (a : Int) (w : World) : Calls Try.prog 13 #[.pointer none, .pointer q, .int .i64 a] w fun e w' => e = .returned (.tuple #[.int .i64 0, .bool false, .int .i64 2]) ∧ w = w' := by
  go_enter Try.func13, Try.ntmps13
  go_wp2
  go_ret3
  exact ⟨rfl, rfl⟩
set_option maxHeartbeats 400000 in
theorem put_nil2 (p : Addr) (a : Int) (w : World) : Calls Try.prog 13 #[.pointer (some p), .pointer none, .int .i64 a] w fun e w' => e = .returned (.tuple #[.int .i64 0, .bool false, .int .i64 2]) ∧ w = w' := by
  go_enter Try.func13, Try.ntmps13
  go_wp2
  go_ret3
  exact ⟨rfl, rfl⟩
set_option maxHeartbeats 400000 in
theorem spans_nil (w : World) : Calls Try.prog 17 #[.pointer none] w fun e w' => e = .returned (.slice none 0 0) ∧ w = w' := by
  go_enter Try.func17, Try.ntmps17
  go_wp2
  go_ret
  exact ⟨rfl, rfl⟩
set_option maxHeartbeats 400000 in
theorem len_pnil (w : World) : Calls Try.prog 14 #[.pointer none] w fun e w' => e = .returned (.int .i64 0) ∧ w = w' := by
  go_enter Try.func14, Try.ntmps14
  go_wp2
  go_ret
  exact ⟨rfl, rfl⟩
set_option maxHeartbeats 400000 in
theorem free_nil (q : Option Addr) (w : World) : Calls Try.prog 16 #[.pointer none, .pointer q] w fun e w' => e = .returned (.slice none 0 0) ∧ w = w' := by
  go_enter Try.func16, Try.ntmps16
  go_wp2
  go_ret
  exact ⟨rfl, rfl⟩
set_option maxHeartbeats 400000 in
theorem free_nil2 (p : Addr) (w : World) : Calls Try.prog 16 #[.pointer (some p), .pointer none] w fun e w' => e = .returned (.slice none 0 0) ∧ w = w' := by
  go_enter Try.func16, Try.ntmps16
  go_wp2
  go_ret
  exact ⟨rfl, rfl⟩
/-! ### the document's example -/
set_option maxHeartbeats 4000000 in
theorem awake_pool (w : World) : Calls Try.prog 15 #[] w fun e w' => e = .returned (.bool true) ∧ Below w.heap.size w w' := by
  have HW := Sh.mk (Below.refl w.heap.size w)
  go_enter Try.func15, Try.ntmps15
  go_wp2_with fail
  (with_reducible refine (new_any 8 w (by omega) (by omega)).mono ?_); rintro e w1 ⟨ga, gb, rfl, har, hg1, hg2, hb1⟩
  go_wp2_with fail
  (with_reducible refine (new_pool 3 w1 (by omega)).mono ?_); rintro e w2 ⟨gp, rfl, hp, hg3, hb2⟩
  have HO := Sh.mk (own_made har hg1 hg2 hb1 hp hg3 hb2 (by omega) (by omega))
  clear har hg1 hg2 hb1 hp hg3 hb2
  go_wp2_with fail
  (with_reducible refine (own_add HO.out 0 (by omega)).mono ?_); rintro e w3 ⟨rfl, ho, -⟩
  have e3 : addP 3 (8 : Int).toNat [] 0 = ([⟨0, [0, 256]⟩], 0) := by
    unfold addP; rw [if_neg (by omega)]; rfl
  rw [e3] at ho ⊢
  have HO3 := Sh.mk ho
  clear ho HO e3
  go_wp2_with fail
  (with_reducible refine (own_take HO3.out).mono ?_); rintro e w4 ⟨rfl, ho, -⟩
  have HO4 : Sh (Own w (fun _ => False) ga gp 3 (8 : Int).toNat [⟨0, [256]⟩] w4) := ⟨ho⟩
  rw [show takeR [⟨0, [0, 256]⟩] = ([⟨0, [256]⟩], 0, 0) from rfl]
  clear ho HO3
  go_wp2_with fail
  (with_reducible refine (own_take HO4.out).mono ?_); rintro e w5 ⟨rfl, ho, -⟩
  have HO5 : Sh (Own w (fun _ => False) ga gp 3 (8 : Int).toNat [⟨0, []⟩] w5) := ⟨ho⟩
  rw [show takeR [⟨0, [256]⟩] = ([⟨0, []⟩], 256, 0) from rfl]
  clear ho HO4
  go_wp2_with fail
  (with_reducible refine (own_take HO5.out).mono ?_); rintro e w6 ⟨rfl, ho, -⟩
  have HO6 : Sh (Own w (fun _ => False) ga gp 3 (8 : Int).toNat [⟨0, []⟩] w6) := ⟨ho⟩
  rw [show takeR [⟨0, []⟩] = ([⟨0, []⟩], 0, 2) from rfl]
  clear ho HO5
  go_wp2_with fail
  (with_reducible refine (own_put HO6.out 0).mono ?_); rintro e w7 ⟨rfl, ho, -⟩
  have HB7 := Sh.mk ho.bl
  rw [show putP 3 [⟨0, []⟩] 0 = ([⟨0, [0]⟩], 0, false, 0) from rfl]
  clear ho HO6
  go_wp2
  go_ret
  exact ⟨rfl, HB7.out⟩

theorem sameI_from (l : List Int) (hl : l.length ≤ 17592186044416) (d : Nat) : ∀ (k : Nat) (i : Int), 0 ≤ i → i ≤ l.length → (l.length : Int) - i = d → d < k → rickyardref1_SameInts.l0 k l l i = some true := by
  induction d with
  | zero =>
    intro k i h0 h1 hd hk
    obtain ⟨k, rfl⟩ : ∃ m, k = m + 1 := ⟨k - 1, by omega⟩
    simp only [rickyardref1_SameInts.l0]
    rw [if_neg (by omega)]
  | succ d ih =>
    intro k i h0 h1 hd hk
    obtain ⟨k, rfl⟩ : ∃ m, k = m + 1 := ⟨k - 1, by omega⟩
    simp only [rickyardref1_SameInts.l0]
    have hw : wrap64 (i + 1) = i + 1 := by unfold wrap64; omega
    rw [if_pos (by omega), if_pos h0, if_pos (by omega), if_pos trivial, hw]
    exact ih k (i + 1) (by omega) (by omega) (by omega) (by omega)
theorem same_ints (l : List Int) (hl : l.length ≤ 17592186044416) (A0 A1 : Option Addr) (c0 c1 : Nat) (w : World) (h0 : Kd.C (Kd.int .i64) w A0 l.length l) (hc0 : l.length ≤ c0) (h1 : Kd.C (Kd.int .i64) w A1 l.length l) (hc1 : l.length ≤ c1) :
    Calls Try.prog 22 #[.slice A0 l.length c0, .slice A1 l.length c1] w fun e w' => e = .returned (.bool true) ∧ Below w.heap.size w w' :=
  (rickyardref1_SameInts.calls (l.length + 1) A0 c0 l A1 c1 l true w h0 hc0 h1 hc1 (by unfold rickyardref1_SameInts.f; rw [if_pos rfl]; exact sameI_from l hl l.length _ 0 (by omega) (by omega) (by omega) (by omega))).mono fun e w' ⟨he, hd⟩ => ⟨he, hd.below⟩

theorem C_cell {k : IntKind} {w : World} {A : Option Addr} {n : Nat} {xs : List Int} (h : Kd.C (Kd.int k) w A n xs) (i : Nat) (hi : i < n) : ∃ ad, A = some ad ∧ w.cell? (ad.add i) = some (.int k (rd0 xs i)) := by
  obtain ⟨ad, c, e, hlen, hK, hc0⟩ := Kd.C_get h (0 : Int) (i : Int) (by omega) (by omega)
  have hK' : c = [Value.int k (xs.getD (i : Int).toNat 0)] := hK
  subst hK'
  have := hc0 0 _ rfl
  have e1 : (i : Int).toNat * (Kd.int k).sz + 0 = i := by
    show (i : Int).toNat * 1 + 0 = i
    omega
  rw [e1, Int.toNat_natCast] at this
  exact ⟨ad, e, this⟩
theorem rd0_rng {l : List Int} {lo hi : Int} (h : ∀ x ∈ l, lo ≤ x ∧ x ≤ hi) (h0 : lo ≤ 0) (h1 : 0 ≤ hi) (i : Nat) : lo ≤ rd0 l i ∧ rd0 l i ≤ hi := by
  by_cases hi' : i < l.length
  · rw [rd0_get l i hi']
    exact h _ (List.getElem_mem hi')
  · have : rd0 l i = 0 := by unfold rd0; rw [List.getD_eq_getElem?_getD, List.getElem?_eq_none (by omega)]; rfl
    rw [this]; exact ⟨h0, h1⟩
theorem wf8 {x : Int} (h : (Lit.int .u8 x).wf = true) : 0 ≤ x ∧ x ≤ 255 := by
  simp only [Lit.wf, Bool.and_eq_true, decide_eq_true_eq] at h
  have h1 : IntKind.u8.min = 0 := by decide
  have h2 : IntKind.u8.max = 255 := by decide
  omega
/-- A row of one's own, its block one of X's: it stays as it is. -/
theorem R_keepX {α : Type} {d : Kd α} {e : TypeId} {W W' : World} {X : Nat → Prop} {v : Value} {l : List α} {b : Nat} (hr : Kd.R d e W b (fun k => some k = v.ownBlock) v l) (hx : ∀ k, X k → W'.heap[k]? = W.heap[k]?) (hX : ∀ k, some k = v.ownBlock → X k) : Kd.R d e W' b (fun k => some k = v.ownBlock) v l :=
  Kd.R_step hr (fun k hk _ => hx k (hX k hk))
theorem addP_pages {c : Int} {N : Nat} {P : Int → Prop} {L : List Pt} {page : Int} (h : ∀ p ∈ L, P p.page) (hp : P page) : ∀ p ∈ (addP c N L page).1, P p.page := by
  unfold addP
  split
  · exact h
  · split
    · exact h
    · have key : ∀ L : List Pt, (∀ p ∈ L, P p.page) → ∀ p ∈ insP c L page, P p.page := by
        intro L
        induction L with
        | nil => intro _ p hm; simp [insP] at hm; rw [hm]; exact hp
        | cons q L ih =>
          intro h p hm
          simp only [insP] at hm
          split at hm
          · rcases List.mem_cons.1 hm with rfl | hm
            · exact h _ (by simp)
            · exact ih (fun p hp => h p (by simp [hp])) p hm
          · rcases List.mem_cons.1 hm with rfl | hm
            · exact hp
            · exact h p hm
      exact key L h
theorem takeR_pages {P : Int → Prop} {L : List Pt} (h : ∀ p ∈ L, P p.page) : ∀ p ∈ (takeR L).1, P p.page := by
  rcases takeP_split L with ⟨h1, _, _⟩ | ⟨pre, p, x, l, suf, h1, _, _, h4, _⟩
  · have e : takeR L = (L, 0, 2) := by unfold takeR; rw [h1]
    rw [e]; exact h
  · have e : takeR L = (pre ++ ⟨p.page, l⟩ :: suf, x, 0) := by unfold takeR; rw [h4]
    rw [e]
    intro q hq
    rcases List.mem_append.1 hq with hq | hq
    · exact h q (by rw [h1]; simp [hq])
    · rcases List.mem_cons.1 hq with rfl | hq
      · exact h p (by rw [h1]; simp)
      · exact h q (by rw [h1]; simp [hq])
theorem putP_pages {c a : Int} {P : Int → Prop} {L : List Pt} (h : ∀ p ∈ L, P p.page) : ∀ p ∈ (putP c L a).1, P p.page := by
  rcases putP_split c a L with ⟨_, h2, _⟩ | ⟨pre, p, suf, h1, _, _, _, h5⟩
  · rw [h2]; exact h
  · rw [h5]
    split
    · exact h
    · split
      · intro q hq
        rcases List.mem_append.1 hq with hq | hq
        · exact h q (by rw [h1]; simp [hq])
        · exact h q (by rw [h1]; simp [hq])
      · intro q hq
        rcases List.mem_append.1 hq with hq | hq
        · exact h q (by rw [h1]; simp [hq])
        · rcases List.mem_cons.1 hq with rfl | hq
          · exact h p (by rw [h1]; simp)
          · exact h q (by rw [h1]; simp [hq])
/-- A take, as the lists of what is free and of the spans see it. -/
theorem take_low (L : List Pt) : (freeP L = [] ∧ takeR L = (L, 0, 2)) ∨ ∃ (x pg : Int) (j m : Nat) (L' : List Pt), takeR L = (L', x, 0) ∧ (freeP L)[0]? = some x ∧ j < L.length ∧ (∀ i : Nat, i < j → (rd_T42 (partsP L) (i : Int)).f1 = 0) ∧ (rd_T42 (partsP L) (j : Int)) = ⟨pg, (m : Int) + 1⟩ ∧ ∃ p ∈ L, p.page = pg ∧ x ∈ p.free := by
  rcases takeP_split L with ⟨h1, h2, _⟩ | ⟨pre, p, x, l, suf, h1, h2, h3, h4, _⟩
  · refine .inl ⟨?_, by unfold takeR; rw [h1]⟩
    unfold freeP
    rw [List.flatMap_eq_nil_iff]
    exact h2
  · refine .inr ⟨x, p.page, pre.length, l.length, _, by unfold takeR; rw [h4], ?_, by rw [h1]; simp, fun i hi => ?_, ?_, p, by rw [h1]; simp, rfl, by rw [h3]; simp⟩
    · have e : freeP pre = [] := by unfold freeP; rw [List.flatMap_eq_nil_iff]; exact h2
      have e2 : freeP L = freeP pre ++ (p.free ++ freeP suf) := by rw [h1]; simp [freeP]
      rw [e2, e, h3]; rfl
    · simp only [rd_T42, partsP]
      rw [h1, Int.toNat_natCast, List.map_append, List.getD_eq_getElem?_getD, List.getElem?_append_left (by rw [List.length_map]; exact hi), List.getElem?_map, List.getElem?_eq_getElem hi]
      show ((pre[i].free.length : Nat) : Int) = 0
      rw [h2 _ (List.getElem_mem hi)]; rfl
    · simp only [rd_T42, partsP]
      rw [h1, Int.toNat_natCast, List.map_append, List.getD_eq_getElem?_getD, List.getElem?_append_right (by rw [List.length_map]; exact Nat.le_refl _), List.length_map, Nat.sub_self]
      show (⟨p.page, (p.free.length : Int)⟩ : S42) = _
      rw [h3]; simp
end Go.Proofs.Ytmmpdpnonnjadaa
