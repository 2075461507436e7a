/- PoolGone in plain lists: all stacks out, then back in any order. No statement is proved here. -/
import Derived.Test.YtmmpdpnonnjadaaPoolAll
namespace Go.Proofs.Ytmmpdpnonnjadaa
set_option linter.unusedVariables false
set_option linter.unusedSimpArgs false
open Go.RowKit Go.Proofs.YtmmpdpnonnjadaaW.PrintWords Go.Proofs.YtmmpdpnonnjadaaW.PrintLast Go.Proofs.YtmmpdpnonnjadaaW.PrintMore Pr

def rdb (l : List Bool) (i : Nat) : Bool := l.getD i false
theorem rdb_set (l : List Bool) (i j : Nat) (b : Bool) (hi : i < l.length) : rdb (l.set i b) j = if i = j then b else rdb l j := by
  unfold rdb
  rw [List.getD_eq_getElem?_getD, List.getD_eq_getElem?_getD, List.getElem?_set]
  by_cases h : i = j
  · rw [if_pos h, if_pos h, if_pos hi]; rfl
  · rw [if_neg h, if_neg h]
def taken (c : Int) (L : List Pt) (a : Int) : Prop := ∃ p ∈ L, hit c p.page a = true ∧ a ∉ p.free
section
variable {c : Int} {N : Nat} {pre suf : List Pt} {p : Pt}
theorem hit_one (h : Good c N (pre ++ p :: suf)) {a : Int} (ha : hit c p.page a = true) : ∀ q ∈ pre ++ suf, hit c q.page a = false := fun q hq => by
  have hm := h.mid
  cases hh : hit c q.page a with
  | false => rfl
  | true =>
    have h1 := hit_bd ha
    have h2 := hit_bd hh
    rcases List.mem_append.1 hq with hq | hq
    · have := hm.2.1 q hq; omega
    · have := hm.2.2.1 q hq; omega
theorem taken_in (h : Good c N (pre ++ p :: suf)) {a : Int} (ha : hit c p.page a = true) : taken c (pre ++ p :: suf) a ↔ a ∉ p.free := by
  constructor
  · rintro ⟨q, hq, h1, h2⟩
    have hq2 : q = p ∨ q ∈ pre ++ suf := by
      rcases List.mem_append.1 hq with hq | hq
      · exact .inr (List.mem_append.2 (.inl hq))
      · rcases List.mem_cons.1 hq with hq | hq
        · exact .inl hq
        · exact .inr (List.mem_append.2 (.inr hq))
    rcases hq2 with rfl | hq2
    · exact h2
    · rw [hit_one h ha q hq2] at h1; cases h1
  · exact fun h2 => ⟨p, by simp, ha, h2⟩
theorem taken_out {a : Int} (ha : hit c p.page a = false) : taken c (pre ++ p :: suf) a ↔ taken c (pre ++ suf) a := by
  constructor
  · rintro ⟨q, hq, h1, h2⟩
    rcases List.mem_append.1 hq with hq | hq
    · exact ⟨q, by simp [hq], h1, h2⟩
    · rcases List.mem_cons.1 hq with rfl | hq
      · rw [ha] at h1; cases h1
      · exact ⟨q, by simp [hq], h1, h2⟩
  · rintro ⟨q, hq, h1, h2⟩
    exact ⟨q, by simp at hq ⊢; rcases hq with hq | hq <;> simp [hq], h1, h2⟩
theorem taken_no {a : Int} (ha : ∀ q ∈ pre ++ suf, hit c q.page a = false) : ¬ taken c (pre ++ suf) a := by
  rintro ⟨q, hq, h1, _⟩
  rw [ha q hq] at h1; cases h1
end
theorem mem_insP (c : Int) (pg : Int) : ∀ (L : List Pt) (q : Pt), q ∈ insP c L pg ↔ q = ⟨pg, allF c pg⟩ ∨ q ∈ L := by
  intro L
  induction L with
  | nil => intro q; simp [insP]
  | cons p L ih =>
    intro q
    simp only [insP]
    split
    · rw [List.mem_cons, ih, List.mem_cons]
      constructor
      · rintro (h | h | h)
        · exact .inr (.inl h)
        · exact .inl h
        · exact .inr (.inr h)
      · rintro (h | h | h)
        · exact .inr (.inl h)
        · exact .inl h
        · exact .inr (.inr h)
    · rw [List.mem_cons]
theorem tot_insP (c : Int) (pg : Int) : ∀ (L : List Pt), tot (insP c L pg) = perC c + tot L := by
  intro L
  induction L with
  | nil => simp [insP, tot, allF]
  | cons p L ih =>
    simp only [insP]
    split
    · simp only [tot, ih]; omega
    · simp [tot, allF]
theorem len_insP (c : Int) (pg : Int) : ∀ (L : List Pt), (insP c L pg).length = L.length + 1 := by
  intro L
  induction L with
  | nil => simp [insP]
  | cons p L ih =>
    simp only [insP]
    split
    · simp [ih]
    · simp
structure OInv (c : Int) (Ps : List Pt) (ol al : List Bool) (all n : Int) : Prop where
  gd : Good c 32 Ps
  pg : ∀ p ∈ Ps, ∃ q : Nat, q < 4 ∧ p.page = 8 * (q : Int)
  ad : ∀ q : Nat, q < 4 → (rdb al q = true ↔ ∃ p ∈ Ps, p.page = 8 * (q : Int))
  ot : ∀ a : Nat, a < 2048 → (rdb ol a = true ↔ taken c Ps a)
  sm : all - n = (tot Ps : Nat)
  la : all = (Ps.length : Int) * (perC c : Nat)
  l1 : ol.length = 2048
  l2 : al.length = 4
section
variable {c : Int} {Ps : List Pt} {ol al : List Bool} {all n : Int} (hc : 0 ≤ c ∧ c ≤ 3)
include hc
theorem OInv.bd (h : OInv c Ps ol al all n) : 0 ≤ all ∧ all ≤ 64 ∧ n ≤ all ∧ -64 ≤ n := by
  have h1 := h.gd.len
  have h2 := h.la
  have h3 := h.sm
  have h4 := tot_bd hc h.gd
  have h5 : (perC c : Nat) ≤ 16 := by rcases cls_cases hc with h | h | h | h <;> omega
  have h6 : (Ps.length : Int) * (perC c : Nat) ≤ 4 * 16 := Int.mul_le_mul (by omega) (by omega) (by omega) (by omega)
  have h7 : 0 ≤ (Ps.length : Int) * (perC c : Nat) := Int.mul_nonneg (by omega) (by omega)
  omega
theorem OInv.add (h : OInv c Ps ol al all n) {q : Nat} (hq : q < 4) (hn : rdb al q = false) : addP c 32 Ps (8 * (q : Int)) = (insP c Ps (8 * q), 0) ∧ (Good c 32 (insP c Ps (8 * q)) → OInv c (insP c Ps (8 * q)) ol (al.set q true) (all + (perC c : Nat)) n) := by
  have hno : ∀ p ∈ Ps, p.page ≠ 8 * (q : Int) := fun p hp e => by
    have := (h.ad q hq).2 ⟨p, hp, e⟩
    rw [hn] at this; cases this
  have hov : overP Ps (8 * (q : Int)) = false := by
    unfold overP
    rw [List.any_eq_false]
    intro p hp
    obtain ⟨r, hr, e⟩ := h.pg p hp
    have := hno p hp
    simp only [decide_eq_true_eq]
    omega
  refine ⟨by unfold addP; rw [if_neg (by omega), if_neg (by rw [hov]; simp)], fun hg => ⟨hg, fun p hp => ?_, fun r hr => ?_, fun a ha => ?_, ?_, ?_, h.l1, by rw [List.length_set]; exact h.l2⟩⟩
  · rcases (mem_insP c _ Ps p).1 hp with rfl | hp
    · exact ⟨q, hq, rfl⟩
    · exact h.pg p hp
  · rw [rdb_set _ _ _ _ (by rw [h.l2]; exact hq)]
    by_cases e : q = r
    · rw [if_pos e, ← e]
      exact ⟨fun _ => ⟨⟨8 * q, allF c (8 * q)⟩, (mem_insP c _ Ps _).2 (.inl rfl), rfl⟩, fun _ => rfl⟩
    · rw [if_neg e, h.ad r hr]
      constructor
      · rintro ⟨p, hp, e2⟩; exact ⟨p, (mem_insP c _ Ps _).2 (.inr hp), e2⟩
      · rintro ⟨p, hp, e2⟩
        rcases (mem_insP c _ Ps p).1 hp with rfl | hp
        · dsimp only at e2; omega
        · exact ⟨p, hp, e2⟩
  · rw [h.ot a ha]
    constructor
    · rintro ⟨p, hp, h1, h2⟩; exact ⟨p, (mem_insP c _ Ps _).2 (.inr hp), h1, h2⟩
    · rintro ⟨p, hp, h1, h2⟩
      rcases (mem_insP c _ Ps p).1 hp with rfl | hp
      · obtain ⟨k, hk, e⟩ := hit_get hc h1
        exact absurd (List.mem_map.2 ⟨k, List.mem_range.2 hk, e.symm⟩) h2
      · exact ⟨p, hp, h1, h2⟩
  · rw [tot_insP]; have := h.sm; omega
  · rw [len_insP, h.la]
    rw [show ((Ps.length + 1 : Nat) : Int) = (Ps.length : Int) + 1 by omega, Int.add_mul]; omega
/-- A take. -/
theorem OInv.take (h : OInv c Ps ol al all n) : ((takeR Ps) = (Ps, 0, 2) ∧ ¬ n < all) ∨ ∃ (L' : List Pt) (x : Nat), takeR Ps = (L', (x : Int), 0) ∧ n < all ∧ x < 2048 ∧ (x : Int) % wdC c = 0 ∧ rdb ol x = false ∧ rdb al (x / 512) = true ∧ (Good c 32 L' → OInv c L' (ol.set x true) al all (n + 1)) := by
  rcases takeP_split Ps with ⟨h1, h2, _⟩ | ⟨pre, p, x, l, suf, h1, h2, h3, h4, _⟩
  · refine .inl ⟨by unfold takeR; rw [h1], ?_⟩
    have : tot Ps = 0 := by
      rw [← freeP_len]
      have : freeP Ps = [] := by unfold freeP; rw [List.flatMap_eq_nil_iff]; exact h2
      rw [this]; rfl
    have := h.sm
    omega
  · have hgd := h.gd
    rw [h1] at hgd
    have hm := hgd.mid
    have hx : x ∈ p.free := by rw [h3]; simp
    have hb := free_bd hc hm.1 hx
    obtain ⟨k, hk, hxk⟩ := hm.1.2.2.2 x hx
    have hhit : hit c p.page x = true := by rw [hxk]; exact hit_adr hc hk
    obtain ⟨xn, rfl⟩ : ∃ xn : Nat, x = xn := Int.eq_ofNat_of_zero_le (by omega)
    obtain ⟨q, hq, hpq⟩ := h.pg p (by rw [h1]; simp)
    have hnd := hm.1.2.2.1
    rw [h3] at hnd
    have hnl := (List.pairwise_cons.1 hnd).1
    have ht : tot Ps = tot pre + (l.length + 1) + tot suf := by rw [h1, tot_app]; simp only [tot, h3, List.length_cons]; omega
    have ht2 : tot (pre ++ ⟨p.page, l⟩ :: suf) = tot pre + l.length + tot suf := by rw [tot_app]; simp only [tot]; omega
    refine .inr ⟨_, xn, by unfold takeR; rw [h4], by have := h.sm; omega, by omega, ?_, ?_, ?_, fun hg => ⟨hg, fun r hr => ?_, fun r hr => ?_, fun a ha => ?_, ?_, ?_, by rw [List.length_set]; exact h.l1, h.l2⟩⟩
    · rw [hxk, hpq]
      unfold adr
      rcases cls_cases hc with ⟨_, e1, _⟩ | ⟨_, e1, _⟩ | ⟨_, e1, _⟩ | ⟨_, e1, _⟩ <;> rw [e1] <;> omega
    · cases hr : rdb ol xn with
      | false => rfl
      | true =>
        have := (h.ot xn (by omega)).1 hr
        rw [h1, taken_in hgd hhit] at this
        exact absurd hx this
    · rw [(h.ad (xn / 512) (by omega))]
      exact ⟨p, by rw [h1]; simp, by rw [hpq]; omega⟩
    · rcases List.mem_append.1 hr with hr | hr
      · exact h.pg r (by rw [h1]; simp [hr])
      · rcases List.mem_cons.1 hr with rfl | hr
        · exact ⟨q, hq, hpq⟩
        · exact h.pg r (by rw [h1]; simp [hr])
    · rw [h.ad r hr, h1]
      constructor
      · rintro ⟨s, hs, e⟩
        rcases List.mem_append.1 hs with hs | hs
        · exact ⟨s, by simp [hs], e⟩
        · rcases List.mem_cons.1 hs with rfl | hs
          · exact ⟨⟨s.page, l⟩, by simp, e⟩
          · exact ⟨s, by simp [hs], e⟩
      · rintro ⟨s, hs, e⟩
        rcases List.mem_append.1 hs with hs | hs
        · exact ⟨s, by simp [hs], e⟩
        · rcases List.mem_cons.1 hs with rfl | hs
          · exact ⟨p, by simp, e⟩
          · exact ⟨s, by simp [hs], e⟩
    · rw [rdb_set _ _ _ _ (by rw [h.l1]; omega)]
      by_cases e : xn = a
      · rw [if_pos e, ← e, taken_in hg (p := ⟨p.page, l⟩) hhit]
        exact ⟨fun _ hm => hnl _ hm rfl, fun _ => rfl⟩
      · rw [if_neg e, h.ot a ha, h1]
        by_cases hh : hit c p.page a = true
        · rw [taken_in hgd hh, taken_in hg (p := ⟨p.page, l⟩) hh, h3, List.mem_cons]
          constructor
          · exact fun h1 h2 => h1 (.inr h2)
          · rintro h1 (h2 | h2)
            · omega
            · exact h1 h2
        · rw [taken_out (by simpa using hh), taken_out (p := ⟨p.page, l⟩) (by simpa using hh)]
    · rw [ht2]; have := h.sm; omega
    · rw [h.la, h1]; simp
/-- A put. -/
theorem OInv.put (h : OInv c Ps ol al all n) {a : Nat} (ha : a < 2048) : (∃ e, (e = 1 ∨ e = 4) ∧ putP c Ps a = (Ps, 0, false, e) ∧ rdb ol a = false) ∨
    ∃ (L' : List Pt) (g : Bool) (pg : Int), putP c Ps a = (L', pg, g, 0) ∧ rdb ol a = true ∧ (a : Int) % wdC c = 0 ∧ (Good c 32 L' → OInv c L' (ol.set a false) (if g = true then al.set (a / 512) false else al) (if g = true then all - (perC c : Nat) else all) (n - 1)) := by
  rcases putP_split c a Ps with ⟨h1, h2, _⟩ | ⟨pre, p, suf, h1, h2, h3, _, h5⟩
  · refine .inl ⟨1, .inl rfl, h2, ?_⟩
    cases hr : rdb ol a with
    | false => rfl
    | true =>
      obtain ⟨q, hq, e, _⟩ := (h.ot a ha).1 hr
      rw [h1 q hq] at e; cases e
  · have hgd := h.gd
    rw [h1] at hgd
    have hm := hgd.mid
    by_cases hf : (a : Int) ∈ p.free
    · refine .inl ⟨4, .inr rfl, by rw [h5, if_pos hf], ?_⟩
      cases hr : rdb ol a with
      | false => rfl
      | true =>
        have := (h.ot a ha).1 hr
        rw [h1, taken_in hgd h3] at this
        exact absurd hf this
    · rw [if_neg hf] at h5
      obtain ⟨q, hq, hpq⟩ := h.pg p (by rw [h1]; simp)
      obtain ⟨k, hk, hak⟩ := hit_get hc h3
      have hbd := hit_bd h3
      have hmod : (a : Int) % wdC c = 0 := by
        rw [hak, hpq]
        unfold adr
        rcases cls_cases hc with ⟨_, e1, _⟩ | ⟨_, e1, _⟩ | ⟨_, e1, _⟩ | ⟨_, e1, _⟩ <;> rw [e1] <;> omega
      have hrd : rdb ol a = true := by rw [h.ot a ha, h1, taken_in hgd h3]; exact hf
      have hone := hit_one hgd h3
      have ht : tot Ps = tot pre + p.free.length + tot suf := by rw [h1, tot_app]; simp only [tot]; omega
      by_cases hg : p.free.length + 1 = perC c
      · rw [if_pos hg] at h5
        refine .inr ⟨_, true, _, h5, hrd, hmod, fun hgood => ⟨hgood, fun r hr => ?_, fun r hr => ?_, fun b hb => ?_, ?_, ?_, by rw [List.length_set]; exact h.l1, by rw [if_pos rfl, List.length_set]; exact h.l2⟩⟩
        · exact h.pg r (by rw [h1]; simp at hr ⊢; rcases hr with hr | hr <;> simp [hr])
        · rw [if_pos rfl, rdb_set _ _ _ _ (by rw [h.l2]; omega)]
          by_cases e : a / 512 = r
          · rw [if_pos e]
            refine ⟨fun h => by simp at h, ?_⟩
            rintro ⟨s, hs, es⟩
            rcases List.mem_append.1 hs with hs | hs
            · have := hm.2.1 s hs; omega
            · have := hm.2.2.1 s hs; omega
          · rw [if_neg e, h.ad r hr, h1]
            constructor
            · rintro ⟨s, hs, es⟩
              rcases List.mem_append.1 hs with hs | hs
              · exact ⟨s, by simp [hs], es⟩
              · rcases List.mem_cons.1 hs with rfl | hs
                · omega
                · exact ⟨s, by simp [hs], es⟩
            · rintro ⟨s, hs, es⟩
              exact ⟨s, by simp at hs ⊢; rcases hs with hs | hs <;> simp [hs], es⟩
        · rw [rdb_set _ _ _ _ (by rw [h.l1]; exact ha)]
          by_cases e : a = b
          · rw [if_pos e, ← e]
            refine ⟨fun h => by simp at h, fun ht => absurd ht (taken_no hone)⟩
          · rw [if_neg e, h.ot b hb, h1]
            by_cases hh : hit c p.page b = true
            · rw [taken_in hgd hh]
              have hbf : (b : Int) ∈ p.free := by
                by_cases hbf : (b : Int) ∈ p.free
                · exact hbf
                · obtain ⟨j, hj, hbj⟩ := hit_get hc hh
                  have := free_len (c := c) (page := p.page) (l := (b : Int) :: (a : Int) :: p.free) (List.nodup_cons.2 ⟨by
                    rw [List.mem_cons]
                    rintro (h | h)
                    · omega
                    · exact hbf h, List.nodup_cons.2 ⟨hf, hm.1.2.2.1⟩⟩) (fun x hx => by
                    rcases List.mem_cons.1 hx with rfl | hx
                    · exact ⟨j, hj, hbj⟩
                    · rcases List.mem_cons.1 hx with rfl | hx
                      · exact ⟨k, hk, hak⟩
                      · exact hm.1.2.2.2 x hx)
                  simp only [List.length_cons] at this
                  omega
              exact ⟨fun h => absurd hbf h, fun h => absurd h (taken_no (hit_one hgd hh))⟩
            · rw [taken_out (by simpa using hh)]
        · rw [if_pos rfl, tot_app]; have := h.sm; omega
        · rw [if_pos rfl, h.la, h1, List.length_append, List.length_append, List.length_cons]
          rw [show ((pre.length + (suf.length + 1) : Nat) : Int) = ((pre.length + suf.length : Nat) : Int) + 1 by omega, Int.add_mul]; omega
      · rw [if_neg hg] at h5
        refine .inr ⟨_, false, _, h5, hrd, hmod, fun hgood => ⟨hgood, fun r hr => ?_, fun r hr => ?_, fun b hb => ?_, ?_, ?_, by rw [List.length_set]; exact h.l1, by simpa using h.l2⟩⟩
        · rcases List.mem_append.1 hr with hr | hr
          · exact h.pg r (by rw [h1]; simp [hr])
          · rcases List.mem_cons.1 hr with rfl | hr
            · exact ⟨q, hq, hpq⟩
            · exact h.pg r (by rw [h1]; simp [hr])
        · rw [if_neg (by simp), h.ad r hr, h1]
          constructor
          · rintro ⟨s, hs, es⟩
            rcases List.mem_append.1 hs with hs | hs
            · exact ⟨s, by simp [hs], es⟩
            · rcases List.mem_cons.1 hs with rfl | hs
              · exact ⟨⟨s.page, a :: s.free⟩, by simp, es⟩
              · exact ⟨s, by simp [hs], es⟩
          · rintro ⟨s, hs, es⟩
            rcases List.mem_append.1 hs with hs | hs
            · exact ⟨s, by simp [hs], es⟩
            · rcases List.mem_cons.1 hs with rfl | hs
              · exact ⟨p, by simp, es⟩
              · exact ⟨s, by simp [hs], es⟩
        · rw [rdb_set _ _ _ _ (by rw [h.l1]; exact ha)]
          by_cases e : a = b
          · rw [if_pos e, ← e, taken_in hgood (p := ⟨p.page, a :: p.free⟩) h3]
            exact ⟨fun h => by simp at h, fun h => absurd (List.mem_cons_self) h⟩
          · rw [if_neg e, h.ot b hb, h1]
            by_cases hh : hit c p.page b = true
            · rw [taken_in hgd hh, taken_in hgood (p := ⟨p.page, a :: p.free⟩) hh, List.mem_cons]
              constructor
              · rintro h1 (h2 | h2)
                · omega
                · exact h1 h2
              · exact fun h1 h2 => h1 (.inr h2)
            · rw [taken_out (by simpa using hh), taken_out (p := ⟨p.page, a :: p.free⟩) (by simpa using hh)]
        · rw [if_neg (by simp), tot_app]; simp only [tot, List.length_cons]; have := h.sm; omega
        · rw [if_neg (by simp), h.la, h1]; simp
end

theorem insP_end (c : Int) (pg : Int) : ∀ L : List Pt, (∀ p ∈ L, p.page < pg) → insP c L pg = L ++ [⟨pg, allF c pg⟩] := by
  intro L
  induction L with
  | nil => intro _; rfl
  | cons p L ih =>
    intro h
    simp only [insP]
    rw [if_pos (h p (by simp)), ih (fun q hq => h q (by simp [hq]))]
    rfl
/-- The first i spans, all free. -/
def baseP (c : Int) (i : Nat) : List Pt := (List.range i).map (fun (j : Nat) => ⟨8 * (j : Int), allF c (8 * (j : Int))⟩)
theorem base_add (c : Int) (i : Nat) (hi : i < 4) : addP c 32 (baseP c i) (8 * (i : Int)) = (baseP c (i + 1), 0) := by
  have hm : ∀ p ∈ baseP c i, ∃ j : Nat, j < i ∧ p.page = 8 * (j : Int) := fun p hp => by
    obtain ⟨j, hj, rfl⟩ := List.mem_map.1 hp
    exact ⟨j, List.mem_range.1 hj, rfl⟩
  have hov : overP (baseP c i) (8 * (i : Int)) = false := by
    unfold overP
    rw [List.any_eq_false]
    intro p hp
    obtain ⟨j, hj, e⟩ := hm p hp
    simp only [decide_eq_true_eq]
    omega
  unfold addP
  rw [if_neg (by omega), if_neg (by rw [hov]; simp), insP_end c _ _ (fun p hp => by obtain ⟨j, hj, e⟩ := hm p hp; omega)]
  unfold baseP
  rw [List.range_succ, List.map_append]
  rfl
theorem sub_len : ∀ (xs ys : List Nat), xs.Nodup → (∀ x ∈ xs, x ∈ ys) → xs.length ≤ ys.length := by
  intro xs
  induction xs with
  | nil => intro ys _ _; simp
  | cons x xs ih =>
    intro ys hn h
    have h1 := List.nodup_cons.1 hn
    have hx := h x (by simp)
    have h2 := ih (ys.erase x) h1.2 (fun y hy => (List.mem_erase_of_ne (by rintro rfl; exact h1.1 hy)).2 (h y (by simp [hy])))
    have h3 := List.length_erase_of_mem hx
    have h4 : 0 < ys.length := List.length_pos_of_mem hx
    simp only [List.length_cons]
    omega
/-- Where there is room, a stack is out. -/
theorem room {c : Int} (hc : 0 ≤ c ∧ c ≤ 3) {page : Int} {l : List Int} (h : ∀ x ∈ l, ∃ k, k < perC c ∧ x = adr c page k) (hl : l.length < perC c) : ∃ k, k < perC c ∧ adr c page k ∉ l := by
  by_cases hh : ∃ k, k < perC c ∧ adr c page k ∉ l
  · exact hh
  · exfalso
    have hall : ∀ k, k < perC c → adr c page k ∈ l := fun k hk => by
      by_cases hm : adr c page k ∈ l
      · exact hm
      · exact absurd ⟨k, hk, hm⟩ hh
    have h1 : ∀ (l : List Int), (∀ x ∈ l, ∃ k, k < perC c ∧ x = adr c page k) → ∃ m : List Nat, l = m.map (adr c page) := by
      intro l
      induction l with
      | nil => intro _; exact ⟨[], rfl⟩
      | cons x l ih =>
        intro h
        obtain ⟨m, hm⟩ := ih (fun y hy => h y (by simp [hy]))
        obtain ⟨k, hk, hx⟩ := h x (by simp)
        exact ⟨k :: m, by rw [hm, hx]; rfl⟩
    obtain ⟨m, hm⟩ := h1 l h
    have := sub_len (List.range (perC c)) m List.nodup_range (fun k hk => by
      have h2 := hall k (List.mem_range.1 hk)
      rw [hm] at h2
      obtain ⟨j, hj, e⟩ := List.mem_map.1 h2
      rw [← adr_inj hc e]; exact hj)
    rw [List.length_range] at this
    rw [hm, List.length_map] at hl
    omega
def cnt (T : List Int) (q : Nat) : Nat := T.countP (fun a => decide (a / 512 = (q : Int)))
structure GInv (c : Int) (n : Nat) (Ps : List Pt) (T lf : List Int) : Prop where
  gd : Good c 32 Ps
  pg : ∀ p ∈ Ps, ∃ q : Nat, q < n ∧ p.page = 8 * (q : Int)
  nd : T.Nodup
  mt : ∀ a, a ∈ T ↔ taken c Ps a
  ct : ∀ q : Nat, q < 4 → rd0 lf q = (cnt T q : Nat)
  sm : tot Ps + T.length = Ps.length * perC c
  ll : lf.length = 4
section
variable {c : Int} {n : Nat} {Ps : List Pt} {T lf : List Int} (hc : 0 ≤ c ∧ c ≤ 3) (hn : n ≤ 4)
include hc hn
omit hn in
theorem GInv.take (h : GInv c n Ps T lf) (ht : 0 < tot Ps) : ∃ (L' : List Pt) (x : Nat), takeR Ps = (L', (x : Int), 0) ∧ x < 512 * n ∧ L'.length = Ps.length ∧ (Good c 32 L' → GInv c n L' (T ++ [(x : Int)]) (lf.set (x / 512) (rd0 lf (x / 512) + 1))) := by
  rcases takeP_split Ps with ⟨h1, h2, _⟩ | ⟨pre, p, x, l, suf, h1, h2, h3, h4, _⟩
  · exfalso
    have : tot Ps = 0 := by
      rw [← freeP_len]
      have : freeP Ps = [] := by unfold freeP; rw [List.flatMap_eq_nil_iff]; exact h2
      rw [this]; rfl
    omega
  · have hgd := h.gd
    rw [h1] at hgd
    have hm := hgd.mid
    have hx : x ∈ p.free := by rw [h3]; simp
    have hb := free_bd hc hm.1 hx
    obtain ⟨k, hk, hxk⟩ := hm.1.2.2.2 x hx
    have hhit : hit c p.page x = true := by rw [hxk]; exact hit_adr hc hk
    obtain ⟨xn, rfl⟩ : ∃ xn : Nat, x = xn := Int.eq_ofNat_of_zero_le (by omega)
    obtain ⟨q, hq, hpq⟩ := h.pg p (by rw [h1]; simp)
    have hnd := hm.1.2.2.1
    rw [h3] at hnd
    have hnl := (List.pairwise_cons.1 hnd).1
    have hxT : (xn : Int) ∉ T := fun hmT => by
      have := (h.mt _).1 hmT
      rw [h1, taken_in hgd hhit] at this
      exact this hx
    have ht1 : tot Ps = tot pre + (l.length + 1) + tot suf := by rw [h1, tot_app]; simp only [tot, h3, List.length_cons]; omega
    have ht2 : tot (pre ++ ⟨p.page, l⟩ :: suf) = tot pre + l.length + tot suf := by rw [tot_app]; simp only [tot]; omega
    have hlen : (pre ++ ({ page := p.page, free := l } : Pt) :: suf).length = Ps.length := by rw [h1]; simp
    refine ⟨_, xn, by unfold takeR; rw [h4], by omega, hlen, fun hg => ⟨hg, fun r hr => ?_, ?_, fun a => ?_, fun r hr => ?_, ?_, by rw [List.length_set]; exact h.ll⟩⟩
    · rcases List.mem_append.1 hr with hr | hr
      · exact h.pg r (by rw [h1]; simp [hr])
      · rcases List.mem_cons.1 hr with rfl | hr
        · exact ⟨q, hq, hpq⟩
        · exact h.pg r (by rw [h1]; simp [hr])
    · exact List.nodup_append.2 ⟨h.nd, by simp, fun a ha b hb e => by simp at hb; subst hb; subst e; exact hxT ha⟩
    · rw [List.mem_append, List.mem_singleton, h.mt a, h1]
      by_cases hh : hit c p.page a = true
      · rw [taken_in hgd hh, taken_in hg (p := ⟨p.page, l⟩) hh, h3, List.mem_cons]
        constructor
        · rintro (h1 | rfl)
          · exact fun h2 => h1 (.inr h2)
          · exact fun hm => hnl _ hm rfl
        · intro h1
          by_cases e : a = xn
          · exact .inr e
          · exact .inl (fun h2 => h2.elim e h1)
      · rw [taken_out (by simpa using hh), taken_out (p := ⟨p.page, l⟩) (by simpa using hh)]
        constructor
        · rintro (h1 | rfl)
          · exact h1
          · exact absurd hhit hh
        · exact fun h1 => .inl h1
    · have e1 : cnt (T ++ [(xn : Int)]) r = cnt T r + (if xn / 512 = r then 1 else 0) := by
        unfold cnt
        rw [List.countP_append, List.countP_singleton]
        congr 1
        by_cases e : xn / 512 = r
        · rw [if_pos e, if_pos (by simp; omega)]
        · rw [if_neg e, if_neg (by simp; omega)]
      rw [rd0_set, e1]
      by_cases e : xn / 512 = r
      · rw [if_pos ⟨e, by rw [h.ll]; omega⟩, if_pos e, e, h.ct r hr]; omega
      · rw [if_neg (fun hh => e hh.1), if_neg e, h.ct r hr]; omega
    · rw [ht2, hlen, List.length_append, List.length_singleton, ← h.sm, ht1]; omega
theorem GInv.put (h : GInv c n Ps T lf) (hr : ∀ p ∈ Ps, p.free.length < perC c) {k : Nat} {a : Nat} (hk : T[k]? = some (a : Int)) :
    ∃ (L' : List Pt) (g : Bool), putP c Ps a = (L', 8 * ((a : Int) / 512), g, 0) ∧ a < 512 * n ∧ g = decide (rd0 lf (a / 512) - 1 = 0) ∧ (Good c 32 L' → GInv c n L' (T.take k ++ T.drop (k + 1)) (lf.set (a / 512) (rd0 lf (a / 512) - 1)) ∧ ∀ p ∈ L', p.free.length < perC c) := by
  obtain ⟨hkl, hka⟩ := List.getElem?_eq_some_iff.1 hk
  have eT : T = T.take k ++ (a : Int) :: T.drop (k + 1) := by rw [← hka, ← List.drop_eq_getElem_cons hkl, List.take_append_drop]
  obtain ⟨T', hT'⟩ : ∃ T', T' = T.take k ++ T.drop (k + 1) := ⟨_, rfl⟩
  rw [← hT']
  have hnd := h.nd
  rw [eT] at hnd
  have hmem : ∀ b, b ∈ T ↔ b = (a : Int) ∨ b ∈ T' := fun b => by
    rw [hT', eT]
    simp only [List.mem_append, List.mem_cons]
    rw [← eT]
    constructor
    · rintro (h | h | h)
      · exact .inr (.inl h)
      · exact .inl h
      · exact .inr (.inr h)
    · rintro (h | h | h)
      · exact .inr (.inl h)
      · exact .inl h
      · exact .inr (.inr h)
  have hna := List.nodup_append.1 hnd
  have hnc := List.nodup_cons.1 hna.2.1
  have haT : (a : Int) ∉ T' := fun hm => by
    rw [hT'] at hm
    rcases List.mem_append.1 hm with hm | hm
    · exact hna.2.2 _ hm _ (by simp) rfl
    · exact hnc.1 hm
  have hndT : T'.Nodup := by rw [hT']; exact List.nodup_append.2 ⟨hna.1, hnc.2, fun x hx y hy => hna.2.2 x hx y (by simp [hy])⟩
  have hlen : T.length = T'.length + 1 := by rw [hT']; simp; omega
  have hcnt : ∀ q : Nat, cnt T q = cnt T' q + (if a / 512 = q then 1 else 0) := fun q => by
    unfold cnt
    rw [hT', eT, List.countP_append, List.countP_append, List.countP_cons]
    rw [← eT]
    by_cases e : a / 512 = q
    · rw [if_pos e, if_pos (by simp; omega)]; omega
    · rw [if_neg e, if_neg (by simp; omega)]; omega
  have htk := (h.mt (a : Int)).1 ((hmem _).2 (.inl rfl))
  rcases putP_split c a Ps with ⟨h1, h2, _⟩ | ⟨pre, p, suf, h1, h2, h3, _, h5⟩
  · obtain ⟨q, hq, e, _⟩ := htk
    rw [h1 q hq] at e; cases e
  · have hgd := h.gd
    rw [h1] at hgd
    have hm := hgd.mid
    rw [h1, taken_in hgd h3] at htk
    rw [if_neg htk] at h5
    obtain ⟨q, hq, hpq⟩ := h.pg p (by rw [h1]; simp)
    obtain ⟨j, hj, haj⟩ := hit_get hc h3
    have hbd := hit_bd h3
    have haq : a / 512 = q := by omega
    have hpage : p.page = 8 * ((a : Int) / 512) := by omega
    have hone := hit_one hgd h3
    have ht1 : tot Ps = tot pre + p.free.length + tot suf := by rw [h1, tot_app]; simp only [tot]; omega
    have hct := h.ct q (by omega)
    have hcq := hcnt q
    rw [if_pos haq] at hcq
    have hnds : ((a : Int) :: p.free).Nodup := List.nodup_cons.2 ⟨htk, hm.1.2.2.1⟩
    have hsub : ∀ x ∈ (a : Int) :: p.free, ∃ k, k < perC c ∧ x = adr c p.page k := fun x hx => by
      rcases List.mem_cons.1 hx with rfl | hx
      · exact ⟨j, hj, haj⟩
      · exact hm.1.2.2.2 x hx
    have hctn : ∀ r : Nat, r < 4 → rd0 (lf.set (a / 512) (rd0 lf (a / 512) - 1)) r = (cnt T' r : Nat) := fun r hr4 => by
      rw [rd0_set]
      have h6 := hcnt r
      have h7 := h.ct r hr4
      by_cases e : a / 512 = r
      · rw [if_pos ⟨e, by rw [h.ll]; omega⟩, e, h7]
        rw [if_pos e] at h6
        omega
      · rw [if_neg (fun hh => e hh.1), h7]
        rw [if_neg e] at h6
        omega
    by_cases hg : p.free.length + 1 = perC c
    · rw [if_pos hg, hpage] at h5
      have hfull : ∀ b : Int, hit c p.page b = true → b ≠ (a : Int) → b ∈ p.free := fun b hb hne => by
        by_cases hbf : b ∈ p.free
        · exact hbf
        · obtain ⟨i, hi, hbi⟩ := hit_get hc hb
          have := free_len (c := c) (page := p.page) (l := b :: (a : Int) :: p.free) (List.nodup_cons.2 ⟨by
            rw [List.mem_cons]
            rintro (h | h)
            · exact hne h
            · exact hbf h, hnds⟩) (fun x hx => by
            rcases List.mem_cons.1 hx with rfl | hx
            · exact ⟨i, hi, hbi⟩
            · exact hsub x hx)
          simp only [List.length_cons] at this
          omega
      have hmt : ∀ b, b ∈ T' ↔ taken c (pre ++ suf) b := fun b => by
        by_cases hh : hit c p.page b = true
        · constructor
          · intro hb
            have h8 := (h.mt b).1 ((hmem b).2 (.inr hb))
            rw [h1, taken_in hgd hh] at h8
            exact absurd (hfull b hh (fun e => haT (e ▸ hb))) h8
          · intro hb; exact absurd hb (taken_no (hit_one hgd hh))
        · have h8 := h.mt b
          rw [h1, taken_out (by simpa using hh), hmem b] at h8
          constructor
          · exact fun hb => h8.1 (.inr hb)
          · intro hb
            rcases h8.2 hb with rfl | h9
            · exact absurd h3 hh
            · exact h9
      have hz : cnt T' q = 0 := by
        unfold cnt
        rw [List.countP_eq_zero]
        intro b hb
        have := (hmt b).1 hb
        obtain ⟨s, hs, hs1, _⟩ := this
        have hs2 := hit_bd hs1
        obtain ⟨r, hr4, hrp⟩ := h.pg s (by rw [h1]; simp at hs ⊢; rcases hs with hs | hs <;> simp [hs])
        have hap : s.page ≠ p.page := by
          rcases List.mem_append.1 hs with hs | hs
          · have := hm.2.1 s hs; omega
          · have := hm.2.2.1 s hs; omega
        simp only [decide_eq_true_eq]
        omega
      refine ⟨_, true, h5, by omega, ?_, fun hgood => ⟨⟨hgood, fun r hr => h.pg r (by rw [h1]; simp at hr ⊢; rcases hr with hr | hr <;> simp [hr]), hndT, hmt, hctn, ?_, by rw [List.length_set]; exact h.ll⟩, fun r hr' => hr r (by rw [h1]; simp at hr' ⊢; rcases hr' with hr' | hr' <;> simp [hr'])⟩⟩
      · rw [haq, hct, hcq, hz]; rfl
      · have h6 := h.sm
        rw [ht1, h1, List.length_append, List.length_cons, hlen] at h6
        rw [tot_app, List.length_append]
        have e3 : (pre.length + (suf.length + 1)) * perC c = (pre.length + suf.length) * perC c + perC c := by rw [← Nat.add_assoc, Nat.add_mul, Nat.one_mul]
        omega
    · rw [if_neg hg, hpage] at h5
      have hrp := hr p (by rw [h1]; simp)
      obtain ⟨i, hi, hni⟩ := room hc hsub (by simp only [List.length_cons]; omega)
      have hmt : Good c 32 (pre ++ ⟨p.page, a :: p.free⟩ :: suf) → ∀ b, b ∈ T' ↔ taken c (pre ++ ⟨p.page, a :: p.free⟩ :: suf) b := fun hgood b => by
        have h8 := h.mt b
        rw [hmem b] at h8
        by_cases hh : hit c p.page b = true
        · rw [h1, taken_in hgd hh] at h8
          rw [taken_in hgood (p := ⟨p.page, a :: p.free⟩) hh, List.mem_cons]
          constructor
          · rintro hb (h2 | h2)
            · exact haT (h2 ▸ hb)
            · exact h8.1 (.inr hb) h2
          · intro hb
            rcases h8.2 (fun h2 => hb (.inr h2)) with h9 | h9
            · exact absurd (.inl h9) hb
            · exact h9
        · rw [h1, taken_out (by simpa using hh)] at h8
          rw [taken_out (p := ⟨p.page, a :: p.free⟩) (by simpa using hh)]
          constructor
          · exact fun hb => h8.1 (.inr hb)
          · intro hb
            rcases h8.2 hb with rfl | h9
            · exact absurd h3 hh
            · exact h9
      have hpos : 0 < cnt T' q := by
        have hi1 := hit_adr hc (page := p.page) hi
        have hi2 : adr c p.page i ∈ T := (h.mt _).2 (by rw [h1, taken_in hgd hi1]; exact fun h2 => hni (by simp [h2]))
        have hi3 : adr c p.page i ∈ T' := by
          rcases (hmem _).1 hi2 with e | e
          · exact absurd (by rw [e]; simp) hni
          · exact e
        unfold cnt
        rw [List.countP_pos_iff]
        refine ⟨_, hi3, ?_⟩
        have := adr_in hc (page := p.page) hi
        have : 32 ≤ wdC c := by rcases cls_cases hc with h | h | h | h <;> omega
        simp only [decide_eq_true_eq]
        omega
      refine ⟨_, false, h5, by omega, ?_, fun hgood => ⟨⟨hgood, fun r hr => ?_, hndT, fun b => by rw [← hpage]; exact hmt (by rw [hpage]; exact hgood) b, hctn, ?_, by rw [List.length_set]; exact h.ll⟩, fun r hr' => ?_⟩⟩
      · rw [haq, hct, hcq]
        exact (decide_eq_false (by omega)).symm
      · rcases List.mem_append.1 hr with hr | hr
        · exact h.pg r (by rw [h1]; simp [hr])
        · rcases List.mem_cons.1 hr with rfl | hr
          · exact ⟨q, hq, by dsimp only; omega⟩
          · exact h.pg r (by rw [h1]; simp [hr])
      · have h6 := h.sm
        rw [ht1, h1, List.length_append, List.length_cons, hlen] at h6
        rw [tot_app, List.length_append]
        simp only [tot, List.length_cons]
        omega
      · rcases List.mem_append.1 hr' with hr' | hr'
        · exact hr r (by rw [h1]; simp [hr'])
        · rcases List.mem_cons.1 hr' with rfl | hr'
          · simp only [List.length_cons]; omega
          · exact hr r (by rw [h1]; simp [hr'])
omit hn in
theorem GInv.end_ (h : GInv c n Ps [] lf) (hr : ∀ p ∈ Ps, p.free.length < perC c) : Ps = [] := by
  cases Ps with
  | nil => rfl
  | cons p L =>
    exfalso
    have hf := h.gd.1 p (by simp)
    obtain ⟨i, hi, hni⟩ := room hc hf.2.2.2 (hr p (by simp))
    have : adr c p.page i ∈ ([] : List Int) := (h.mt _).2 ⟨p, by simp, hit_adr hc hi, hni⟩
    cases this
end
end Go.Proofs.Ytmmpdpnonnjadaa
