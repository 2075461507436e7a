/- Add of a pool: its plain law, its memory; New. No statement is proved here. -/
import Derived.Test.YtmmpdpnonnjadaaPoolPut2
namespace Go.Proofs.Ytmmpdpnonnjadaa
set_option linter.unusedVariables false
set_option linter.unusedSimpArgs false
open Go.RowKit Go.Proofs.YtmmpdpnonnjadaaW.PrintWords Go.Proofs.YtmmpdpnonnjadaaW.PrintLast Go.Proofs.YtmmpdpnonnjadaaW.PrintMore Pr

/-- How many spans end ahead of a page. -/
def posP : List Pt → Int → Nat
  | [], _ => 0
  | p :: L, pg => if p.page + 8 ≤ pg then posP L pg + 1 else 0
theorem posP_le (pg : Int) : ∀ L : List Pt, posP L pg ≤ L.length := by
  intro L
  induction L with
  | nil => simp [posP]
  | cons p L ih => simp only [posP]; split <;> simp <;> omega
theorem posP_drop (pg : Int) (L : List Pt) (i : Nat) (hi : i < L.length) : posP (L.drop i) pg = if L[i].page + 8 ≤ pg then posP (L.drop (i + 1)) pg + 1 else 0 := by
  rw [List.drop_eq_getElem_cons hi]; rfl
theorem over_no {c : Int} {N : Nat} (pg : Int) {L : List Pt} (h : ∀ q ∈ L, pg + 8 ≤ q.page) : overP L pg = false := by
  unfold overP
  rw [List.any_eq_false]
  intro q hq
  have := h q hq
  simp only [decide_eq_true_eq]
  omega
theorem add_pos {c : Int} {N : Nat} (pg : Int) : ∀ (L : List Pt), Good c N L → (overP L pg = true ↔ ∃ p, L[posP L pg]? = some p ∧ p.page < pg + 8) ∧ (overP L pg = false → insP c L pg = L.take (posP L pg) ++ ⟨pg, allF c pg⟩ :: L.drop (posP L pg)) ∧
    (∀ p ∈ L.take (posP L pg), p.page + 8 ≤ pg) ∧ (overP L pg = false → ∀ p ∈ L.drop (posP L pg), pg + 8 ≤ p.page) := by
  intro L
  induction L with
  | nil => intro _; exact ⟨by simp [overP, posP], fun _ => rfl, by simp [posP], by simp⟩
  | cons p L ih =>
    intro h
    obtain ⟨h1, h2, h3⟩ := h.cons
    obtain ⟨i1, i2, i3, i4⟩ := ih h2
    by_cases hp : p.page + 8 ≤ pg
    · have e1 : posP (p :: L) pg = posP L pg + 1 := by simp only [posP]; rw [if_pos hp]
      have e2 : overP (p :: L) pg = overP L pg := by
        have : decide (p.page < pg + 8 ∧ pg < p.page + 8) = false := decide_eq_false (by omega)
        simp only [overP, List.any_cons, this, Bool.false_or]
      rw [e1, e2]
      refine ⟨by simpa using i1, fun ho => ?_, fun q hq => ?_, fun ho q hq => ?_⟩
      · simp only [insP]; rw [if_pos (by omega), i2 ho]; rfl
      · rw [List.take_succ_cons] at hq
        rcases List.mem_cons.1 hq with rfl | hq
        · exact hp
        · exact i3 q hq
      · exact i4 ho q (by simpa using hq)
    · have e1 : posP (p :: L) pg = 0 := by simp only [posP]; rw [if_neg hp]
      rw [e1]
      by_cases hq : p.page < pg + 8
      · have e2 : overP (p :: L) pg = true := by
          have : decide (p.page < pg + 8 ∧ pg < p.page + 8) = true := decide_eq_true (by omega)
          simp only [overP, List.any_cons, this, Bool.true_or]
        rw [e2]
        exact ⟨by simpa using hq, by simp, by simp, by simp⟩
      · have e3 : ∀ q ∈ p :: L, pg + 8 ≤ q.page := fun q hq => by
          rcases List.mem_cons.1 hq with rfl | hq
          · omega
          · have := h3 q hq; omega
        rw [over_no (c := c) (N := N) pg e3]
        refine ⟨by simpa using hq, fun _ => ?_, by simp, fun _ q hq => e3 q hq⟩
        simp only [insP]; rw [if_neg (by omega)]; rfl
theorem allF_drop (c page : Int) (k : Nat) (hk : k < perC c) : (allF c page).drop k = adr c page k :: (allF c page).drop (k + 1) := by
  have hl : k < (allF c page).length := by simp [allF]; exact hk
  rw [List.drop_eq_getElem_cons hl]
  congr 1
  simp [allF]
theorem allF_not {c : Int} (hc : 0 ≤ c ∧ c ≤ 3) (page : Int) (k : Nat) : adr c page k ∉ (allF c page).drop (k + 1) := by
  intro h
  unfold allF at h
  rw [← List.map_drop] at h
  obtain ⟨j, hj, e⟩ := List.mem_map.1 h
  have := adr_inj hc e
  subst this
  have h2 : ∀ x ∈ (List.range (perC c)).drop (j + 1), j + 1 ≤ x := fun x hx => by
    obtain ⟨i, hi, rfl⟩ := List.mem_iff_getElem.1 hx
    rw [List.getElem_drop, List.getElem_range]
    omega
  have := h2 j hj
  omega
section
variable {F : Nat → Prop} {ga gb gp : Nat} {c : Int} {N : Nat} {M M' : List Int} {L : List (Pt × Nat)} {v v' : Value} {W W4 W5 W6 : World} {g i : Nat} {page : Int}
/-- What Add's last store leaves. -/
theorem PR.added (h : PR F ga gb gp c N M L v W) (har : Ar W4 ga gb M') (ml : M'.length = N * 64) (hkp : Kp [gb] W W4) (hbf : Blk W4 g 4 (bls c ⟨page, allF c page⟩)) (hgn : W.heap.size ≤ g) (hb4 : Below W4.heap.size W4 W5)
    (ho : W6.ownsRow 0 63 4 v' (L.length + 1) ((spF c L).take (i * 4) ++ spE c (⟨page, allF c page⟩, g) ++ (spF c L).drop (i * 4))) (hi : i ≤ L.length) (hg : W5.grownBy W6 v.ownBlock) (hv : v'.ownBlock = v.ownBlock ∨ ∃ b, v'.ownBlock = some b ∧ W5.heap.size ≤ b)
    (ch : Chn M' (allF c page)) (co : ∀ q ∈ L, Chn M' q.1.free) (gd : Good c N ((L.take i ++ ((⟨page, allF c page⟩ : Pt), g) :: L.drop i).map (·.1))) :
    PR (fun k => F k ∨ k = g ∨ v'.ownBlock = some k) ga gb gp c N M' (L.take i ++ (⟨page, allF c page⟩, g) :: L.drop i) v' (W6.setCell ⟨gp, 1, none⟩ v') ∧ (∀ k, (F k ∨ k = g ∨ v'.ownBlock = some k) → F k ∨ W.heap.size ≤ k) ∧ Kq F W (W6.setCell ⟨gp, 1, none⟩ v') := by
  have hvt : ∀ k, v.ownBlock = some k → ∃ cells, Blk W k 63 cells := fun k hk => own_typed h.row k hk
  have kA : Kp [gb] W W5 := hkp.trans (Kp.of_below hb4 _)
  have hvl : ∀ k, v.ownBlock = some k → k < W.heap.size := fun k hk => (hvt k hk).elim fun _ hb => hb.lt
  have kB : Kp (gb :: v.ownBlock.toList) W W6 := (kA.mono (by simp)).grown hg (fun k hk => .inl (by simp [hk]))
  have kC : Kp (gb :: gp :: v.ownBlock.toList) W (W6.setCell ⟨gp, 1, none⟩ v') := (kB.mono (by intro q hq; simp at hq ⊢; rcases hq with hq | hq <;> simp [hq])).set_ (p := ⟨gp, 1, none⟩) (by simp) _
  have nv : ∀ {k t cs}, Blk W k t cs → t ≠ 63 → v.ownBlock ≠ some k := fun hb ht e => by
    obtain ⟨cells, hc⟩ := hvt _ e
    exact (hb.ne_ hc ht) rfl
  have n1 : ga ≠ gb := h.ar.ne
  have n2 : ga ≠ gp := h.ar.st.ne_ h.pl (by decide)
  have n3 : gp ≠ gb := h.pl.ne_ h.ar.ws (by decide)
  have hlt : W4.heap.size ≤ W5.heap.size := hb4.size
  have hlw : W.heap.size ≤ W4.heap.size := hkp.size
  have hgl := hbf.lt
  have hgp := h.fb _ h.fa.2.2
  have hgb := h.fb _ h.fa.2.1
  have hga := h.fb _ h.fa.1
  have ngv : v.ownBlock ≠ some g := fun e => by have := hvl g e; omega
  have hv'lt : ∀ k, v'.ownBlock = some k → k < W6.heap.size := fun k hk => (own_typed ho k hk).elim fun _ hb => (Array.getElem?_eq_some_iff.1 hb).1
  have hsub : ∀ k, (F k ∨ k = g ∨ v'.ownBlock = some k) → F k ∨ W.heap.size ≤ k := fun k hk => by
    rcases hk with hk | rfl | hk
    · exact .inl hk
    · exact .inr hgn
    · rcases hv with hv | ⟨b, hb, hbl⟩
      · exact .inl (h.fv k (by rw [← hv]; exact hk))
      · rw [hk] at hb; cases hb; exact .inr (by omega)
  refine ⟨⟨?_, ml, ?_, ?_, fun q hq => ?_, ?_, fun q hq => ?_, gd, h.cc, h.nn, ⟨.inl h.fa.1, .inl h.fa.2.1, .inl h.fa.2.2⟩, fun k hk => .inr (.inr hk), fun q hq => ?_, fun k hk => ?_⟩, hsub, Kq.of_kp kC (fun q hq => ?_)⟩
  · -- the arena
    have a1 : Ar W5 ga gb M' := har.kp (Kp.of_below hb4 []) (by simp) (by simp)
    have nva := nv h.ar.st (by decide)
    have nvb := nv h.ar.ws (by decide)
    have a2 : Ar W6 ga gb M' := a1.kp ((Kp.refl v.ownBlock.toList W5).grown hg (fun k hk => .inl (by simp [hk]))) (by simp; exact nva) (by simp; exact nvb)
    exact a2.kp ((Kp.refl [gp] W6).set_ (p := ⟨gp, 1, none⟩) (by simp) _) (by simp; omega) (by simp; omega)
  · exact (h.pl.kp kB (by simp; exact ⟨n3, nv h.pl (by decide)⟩)).set_ 1 v'
  · rw [spF_take, spF_drop] at ho
    have e1 : spF c (L.take i) ++ spE c (⟨page, allF c page⟩, g) ++ spF c (L.drop i) = spF c (L.take i ++ (⟨page, allF c page⟩, g) :: L.drop i) := by rw [spF_app]; simp [spF]
    rw [e1] at ho
    rw [show (L.take i ++ ((⟨page, allF c page⟩ : Pt), g) :: L.drop i).length = L.length + 1 by simp; omega]
    refine own_far ho ?_ _
    rcases hv with hv | ⟨b, hb, hbl⟩
    · rw [hv]; exact nv h.pl (by decide)
    · rw [hb]; intro e; simp at e; omega
  · have hq2 : q = (⟨page, allF c page⟩, g) ∨ q ∈ L := by
      rcases List.mem_append.1 hq with hq | hq
      · exact .inr (List.mem_of_mem_take hq)
      · rcases List.mem_cons.1 hq with hq | hq
        · exact .inl hq
        · exact .inr (List.mem_of_mem_drop hq)
    rcases hq2 with rfl | hq
    · have b1 : Blk W5 g 4 (bls c ⟨page, allF c page⟩) := hbf.kp (Kp.of_below hb4 []) (by simp)
      have b2 : Blk W6 g 4 (bls c ⟨page, allF c page⟩) := b1.kp ((Kp.refl v.ownBlock.toList W5).grown hg (fun k hk => .inl (by simp [hk]))) (by simp; exact ngv)
      exact b2.far (p := ⟨gp, 1, none⟩) (by show g ≠ gp; omega) _
    · have hb := h.bo q hq
      exact hb.kp kC (by simp; exact ⟨hb.ne_ h.ar.ws (by decide), hb.ne_ h.pl (by decide), nv hb (by decide)⟩)
  · have hn : (L.map (·.2)).Nodup := h.nd
    have e2 : L.map (·.2) = (L.take i).map (·.2) ++ (L.drop i).map (·.2) := by rw [← List.map_append, List.take_append_drop]
    rw [e2] at hn
    have h2 := List.pairwise_append.1 hn
    have hng : ∀ x ∈ L.map (·.2), x ≠ g := fun x hx e => by
      obtain ⟨q, hq, rfl⟩ := List.mem_map.1 hx
      have := (h.bo q hq).lt
      omega
    rw [List.map_append, List.map_cons]
    refine List.pairwise_append.2 ⟨h2.1, List.pairwise_cons.2 ⟨fun x hx e => hng x (by rw [e2]; exact List.mem_append.2 (.inr hx)) e.symm, h2.2.1⟩, fun x hx y hy => ?_⟩
    rcases List.mem_cons.1 hy with rfl | hy
    · exact hng x (by rw [e2]; exact List.mem_append.2 (.inl hx))
    · exact h2.2.2 x hx y hy
  · rcases List.mem_append.1 hq with hq | hq
    · exact co q (List.mem_of_mem_take hq)
    · rcases List.mem_cons.1 hq with rfl | hq
      · exact ch
      · exact co q (List.mem_of_mem_drop hq)
  · rcases List.mem_append.1 hq with hq | hq
    · exact .inl (h.fq q (List.mem_of_mem_take hq))
    · rcases List.mem_cons.1 hq with rfl | hq
      · exact .inr (.inl rfl)
      · exact .inl (h.fq q (List.mem_of_mem_drop hq))
  · have hsz : W6.heap.size ≤ (W6.setCell ⟨gp, 1, none⟩ v').heap.size := by simp [World.setCell]
    have h56 := hg.size
    rcases hk with hk | rfl | hk
    · have := h.fb k hk; omega
    · omega
    · have := hv'lt k hk; omega
  · simp at hq
    rcases hq with rfl | rfl | hq
    · exact h.fa.2.1
    · exact h.fa.2.2
    · exact h.fv q hq
end
end Go.Proofs.Ytmmpdpnonnjadaa
