/- Put of a pool: a contract. No statement is proved here. -/
import Derived.Test.YtmmpdpnonnjadaaPoolTake2
namespace Go.Proofs.Ytmmpdpnonnjadaa
set_option linter.unusedVariables false
set_option linter.unusedSimpArgs false
open Go.RowKit Go.Proofs.YtmmpdpnonnjadaaW.PrintWords Go.Proofs.YtmmpdpnonnjadaaW.PrintLast Go.Proofs.YtmmpdpnonnjadaaW.PrintMore Pr

theorem putP_split (c : Int) (a : Int) : ∀ (L : List Pt), ((∀ p ∈ L, hit c p.page a = false) ∧ putP c L a = (L, 0, false, 1) ∧ ∀ i, fndP c L i a = (0, 0, false)) ∨
    ∃ pre p suf, L = pre ++ p :: suf ∧ (∀ q ∈ pre, hit c q.page a = false) ∧ hit c p.page a = true ∧ (∀ i : Nat, fndP c L i a = ((i : Int) + (pre.length : Nat), (a - p.page * 64) / wdC c, true)) ∧
      putP c L a = if a ∈ p.free then (L, 0, false, 4) else if p.free.length + 1 = perC c then (pre ++ suf, p.page, true, 0) else (pre ++ ⟨p.page, a :: p.free⟩ :: suf, p.page, false, 0) := by
  intro L
  induction L with
  | nil => exact .inl ⟨by simp, rfl, fun _ => rfl⟩
  | cons p L ih =>
    by_cases h : hit c p.page a = true
    · refine .inr ⟨[], p, L, rfl, by simp, h, fun i => ?_, ?_⟩
      · simp only [fndP, h, if_true]; simp
      · simp only [putP, h, if_true]; simp
    · have hf : hit c p.page a = false := by simpa using h
      rcases ih with ⟨h1, h2, h3⟩ | ⟨pre, q, suf, h1, h2, h3, h4, h5⟩
      · refine .inl ⟨fun q hq => ?_, ?_, fun i => ?_⟩
        · rcases List.mem_cons.1 hq with rfl | hq
          · exact hf
          · exact h1 q hq
        · simp only [putP]; rw [if_neg h, h2]
        · simp only [fndP]; rw [if_neg h]; exact h3 _
      · refine .inr ⟨p :: pre, q, suf, by rw [h1]; rfl, fun r hr => ?_, h3, fun i => ?_, ?_⟩
        · rcases List.mem_cons.1 hr with rfl | hr
          · exact hf
          · exact h2 r hr
        · simp only [fndP]; rw [if_neg h, h4]; simp only [List.length_cons]; congr 1; omega
        · simp only [putP]; rw [if_neg h, h5]
          split
          · rfl
          · split <;> rfl
section
variable {F : Nat → Prop} {ga gb gp : Nat} {c : Int} {N : Nat} {M : List Int} {la lb : List (Pt × Nat)} {p : Pt} {g g0 n cap : Nat} {v : Value} {W W1 V : World}
theorem PR.apart (h : PR F ga gb gp c N M (la ++ (p, g) :: lb) v W) {a : Int} (hh : hit c p.page a = true) : ∀ q ∈ la ++ lb, a ∉ q.1.free := fun q hq hm => by
  have hgd := h.gd
  rw [List.map_append, List.map_cons] at hgd
  have hmid := hgd.mid
  have hq1 : q.1 ∈ la.map (·.1) ++ lb.map (·.1) := by
    rcases List.mem_append.1 hq with hq | hq
    · exact List.mem_append.2 (.inl (List.mem_map.2 ⟨q, hq, rfl⟩))
    · exact List.mem_append.2 (.inr (List.mem_map.2 ⟨q, hq, rfl⟩))
  have hqf := hmid.2.2.2.1 q.1 hq1
  have hb := free_bd h.cc hqf hm
  have hp := hit_bd hh
  rcases List.mem_append.1 hq1 with h1 | h1
  · have := hmid.2.1 _ h1; dsimp only at this; omega
  · have := hmid.2.2.1 _ h1; dsimp only at this; omega
/-- What Put's push and stores leave. -/
theorem PR.putted (h : PR F ga gb gp c N M (la ++ (p, g) :: lb) (.slice (some ⟨g0, 0, none⟩) (la ++ (p, g) :: lb).length cap) W) {a : Int} (hh : hit c p.page a = true) (ha : a ∉ p.free) {k : Nat} (hk : k < perC c) (hx : a = adr c p.page k)
    (har : Ar W1 ga gb (M.set a.toNat (hd p.free))) (hkp : Kp [gb] W W1)
    (hb : Below (((W1.setCell ⟨g0, la.length * 4 + 1, none⟩ (.int .i64 (a + 1))).setCell ⟨g0, la.length * 4 + 2, none⟩ (.int .i64 ((p.free.length : Int) + 1))).setCell ⟨g, k, none⟩ (.bool true)).heap.size (((W1.setCell ⟨g0, la.length * 4 + 1, none⟩ (.int .i64 (a + 1))).setCell ⟨g0, la.length * 4 + 2, none⟩ (.int .i64 ((p.free.length : Int) + 1))).setCell ⟨g, k, none⟩ (.bool true)) V) :
    PR F ga gb gp c N (M.set a.toNat (hd p.free)) (la ++ (⟨p.page, a :: p.free⟩, g) :: lb) (.slice (some ⟨g0, 0, none⟩) (la ++ (p, g) :: lb).length cap) V ∧ Kq F W V := by
  obtain ⟨g0', cap', cur, hv, hF0, _, _, hB0, _⟩ := h.mid
  simp only [Value.slice.injEq, Option.some.injEq, Addr.mk.injEq] at hv
  obtain ⟨⟨rfl, _, _⟩, _, rfl⟩ := hv
  obtain ⟨hBg, hFg, hfit, hch, hne⟩ := h.gmid
  have n1 : ga ≠ g0 := h.ar.st.ne_ hB0 (by decide)
  have n2 : gb ≠ g0 := h.ar.ws.ne_ hB0 (by decide)
  have n3 : gp ≠ g0 := h.pl.ne_ hB0 (by decide)
  have n4 : g ≠ g0 := hBg.ne_ hB0 (by decide)
  have n5 : ga ≠ g := h.ar.st.ne_ hBg (by decide)
  have n6 : gb ≠ g := h.ar.ws.ne_ hBg (by decide)
  have n7 : gp ≠ g := h.pl.ne_ hBg (by decide)
  have n9 : gp ≠ gb := h.pl.ne_ h.ar.ws (by decide)
  have hc := h.cc
  have hap := h.apart hh
  have hbd := hit_bd hh
  have ha0 : 0 ≤ a := by have := hfit.1; omega
  have haM : a < M.length := by have := hfit.2.1; have := h.ml; omega
  have hb' := ((((Kp.refl [g0, g] W1).set_ (p := ⟨g0, la.length * 4 + 1, none⟩) (by simp) (.int .i64 (a + 1))).set_ (p := ⟨g0, la.length * 4 + 2, none⟩) (by simp) (.int .i64 ((p.free.length : Int) + 1))).set_ (p := ⟨g, k, none⟩) (by simp) (.bool true)).trans (Kp.of_below hb [g0, g])
  have k1 : Kp [gb, g0, g] W V := (hkp.mono (by simp)).trans (hb'.mono (by simp))
  have hfit2 : FitP c N ⟨p.page, a :: p.free⟩ := ⟨hfit.1, hfit.2.1, List.nodup_cons.2 ⟨ha, hfit.2.2.1⟩, fun y hy => by
    rcases List.mem_cons.1 hy with rfl | hy
    · exact ⟨k, hk, hx⟩
    · exact hfit.2.2.2 y hy⟩
  refine ⟨h.turn (har.kp hb' (by simp; omega) (by simp; omega)) (by rw [List.length_set]; exact h.ml) (h.pl.kp k1 (by simp; omega)) ?_ ?_ (fun q hq => ?_) k1.size hfit2 (Chn_push hch ha0 haM ha) (fun q hq => Chn_set (h.ch q (by simp at hq ⊢; rcases hq with hq | hq <;> simp [hq])) ha0 (hap q hq) _), Kq.of_kp k1 (fun q hq => by simp at hq; rcases hq with rfl | rfl | rfl; exact h.fa.2.1; exact hF0; exact hFg)⟩
  · have r0 : W1.ownsRow 0 63 4 (.slice (some ⟨g0, 0, none⟩) (la ++ (p, g) :: lb).length cap) (la ++ (p, g) :: lb).length (spF c (la ++ (p, g) :: lb)) := own_move h.row (fun k hk => hkp.block k (by
      simp [Value.ownBlock] at hk
      subst hk
      exact hB0.lt) (by
      simp [Value.ownBlock] at hk
      subst hk
      simp; omega))
    have r1 := own_set (own_set r0 (la.length * 4 + 1) (.int .i64 (a + 1))) (la.length * 4 + 2) (.int .i64 ((p.free.length : Int) + 1))
    have e1 := spF_set c la lb p g (a :: p.free)
    rw [show hd (a :: p.free) = a + 1 from rfl, show (((a :: p.free).length : Nat) : Int) = (p.free.length : Int) + 1 by simp] at e1
    rw [e1] at r1
    have r2 := own_far r1 (p := ⟨g, k, none⟩) (by simp [Value.ownBlock]; exact fun e => n4 e.symm) (.bool true)
    exact own_move r2 (fun k hk => hb.block k (by
      have := (hB0.kp hkp (by simp; omega)).lt
      simp [Value.ownBlock] at hk
      subst hk
      simpa using this))
  · have b0 := hBg.kp hkp (by simp; omega)
    have b1 := ((b0.far (p := ⟨g0, la.length * 4 + 1, none⟩) n4 (.int .i64 (a + 1))).far (p := ⟨g0, la.length * 4 + 2, none⟩) n4 (.int .i64 ((p.free.length : Int) + 1))).set_ k (.bool true)
    rw [bls_set hc p (a :: p.free) k hk true] at b1
    · exact b1.kp (Kp.of_below hb []) (by simp)
    · rw [← hx]; simp
    · intro j hj hjk
      rw [List.mem_cons]
      constructor
      · rintro (h | h)
        · exact absurd (adr_inj hc (h.trans hx)) hjk
        · exact h
      · exact fun h => .inr h
  · have hm : q ∈ la ++ (p, g) :: lb := by simp at hq ⊢; rcases hq with hq | hq <;> simp [hq]
    have n8 : q.2 ≠ g0 := (h.bo q hm).ne_ hB0 (by decide)
    have n10 : q.2 ≠ gb := (h.bo q hm).ne_ h.ar.ws (by decide)
    exact k1.block q.2 (h.bo q hm).lt (by simp; exact ⟨n10, n8, hne q hq⟩)
/-- What the row's Delete and the store of it leave. -/
theorem PR.dropped (h : PR F ga gb gp c N M (la ++ (p, g) :: lb) v W) {v' : Value} (ho : W1.ownsRow 0 63 4 v' ((la ++ (p, g) :: lb).length - 1) ((spF c (la ++ (p, g) :: lb)).take (la.length * 4) ++ (spF c (la ++ (p, g) :: lb)).drop ((la.length + 1) * 4)))
    (hg : W.grownBy W1 v.ownBlock) (hv : v'.ownBlock = v.ownBlock) : PR F ga gb gp c N M (la ++ lb) v' (W1.setCell ⟨gp, 1, none⟩ v') ∧ Kq F W (W1.setCell ⟨gp, 1, none⟩ v') := by
  obtain ⟨g0, cap, cur, rfl, hF0, _, _, hB0, _⟩ := h.mid
  have n1 : ga ≠ g0 := h.ar.st.ne_ hB0 (by decide)
  have n2 : gb ≠ g0 := h.ar.ws.ne_ hB0 (by decide)
  have n3 : gp ≠ g0 := h.pl.ne_ hB0 (by decide)
  have n4 : ga ≠ gp := h.ar.st.ne_ h.pl (by decide)
  have n5 : gb ≠ gp := h.ar.ws.ne_ h.pl (by decide)
  have kg : Kp [g0] W W1 := (Kp.refl [g0] W).grown hg (fun k hk => .inl (by simp [Value.ownBlock] at hk; simp [hk]))
  have k1 : Kp [g0, gp] W (W1.setCell ⟨gp, 1, none⟩ v') := (kg.mono (by simp)).set_ (p := ⟨gp, 1, none⟩) (by simp) _
  have hsub : ∀ q ∈ la ++ lb, q ∈ la ++ (p, g) :: lb := fun q hq => by simp at hq ⊢; rcases hq with hq | hq <;> simp [hq]
  have hgd := h.gd
  rw [List.map_append, List.map_cons] at hgd
  refine ⟨⟨h.ar.kp k1 (by simp; omega) (by simp; omega), h.ml, ?_, ?_, fun q hq => ?_, ?_, fun q hq => h.ch q (hsub q hq), by rw [List.map_append]; exact hgd.mid.2.2.2, h.cc, h.nn, h.fa, fun k hk => h.fv k (hv.symm.trans hk), fun q hq => h.fq q (hsub q hq), fun k hk => Nat.lt_of_lt_of_le (h.fb k hk) k1.size⟩, Kq.of_kp k1 (fun q hq => by simp at hq; rcases hq with rfl | rfl; exact hF0; exact h.fa.2.2)⟩
  · have b1 := (h.pl.kp kg (by simp; omega)).set_ 1 v'
    exact b1
  · rw [spF_take, spF_drop, ← spF_app] at ho
    have e1 : (la ++ (p, g) :: lb).take la.length ++ (la ++ (p, g) :: lb).drop (la.length + 1) = la ++ lb := by simp
    rw [e1, show (la ++ (p, g) :: lb).length - 1 = (la ++ lb).length by simp] at ho
    refine own_far ho ?_ _
    rw [hv]
    simp [Value.ownBlock]
    exact fun e => n3 e.symm
  · have hm := hsub q hq
    have n8 : q.2 ≠ g0 := (h.bo q hm).ne_ hB0 (by decide)
    have n9 : q.2 ≠ gp := (h.bo q hm).ne_ h.pl (by decide)
    exact (h.bo q hm).kp k1 (by simp; exact ⟨n8, n9⟩)
  · have := h.nd
    rw [List.map_append, List.map_cons] at this
    rw [List.map_append]
    have h2 := List.pairwise_append.1 this
    exact List.pairwise_append.2 ⟨h2.1, (List.pairwise_cons.1 h2.2.1).2, fun x hx y hy => h2.2.2 x hx y (by simp [hy])⟩
end
end Go.Proofs.Ytmmpdpnonnjadaa
