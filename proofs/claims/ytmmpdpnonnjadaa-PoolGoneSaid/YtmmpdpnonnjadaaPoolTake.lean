/- Take of a pool: a contract. No statement is proved here. -/
import Derived.Test.YtmmpdpnonnjadaaPoolFind
import Derived.Shelf.Abstract
namespace Go.Proofs.Ytmmpdpnonnjadaa
set_option linter.unusedVariables false
set_option linter.unusedSimpArgs false
open Go.RowKit Go.Proofs.YtmmpdpnonnjadaaW.PrintWords Go.Proofs.YtmmpdpnonnjadaaW.PrintLast Go.Proofs.YtmmpdpnonnjadaaW.PrintMore Pr

section
variable {F : Nat → Prop} {ga gb gp : Nat} {c : Int} {N : Nat} {M : List Int} {la lb : List (Pt × Nat)} {p : Pt} {g : Nat} {v : Value} {W V : World}
theorem PR.mid (h : PR F ga gb gp c N M (la ++ (p, g) :: lb) v W) : ∃ g0 cap cur, v = .slice (some ⟨g0, 0, none⟩) (la ++ (p, g) :: lb).length cap ∧ F g0 ∧ (la ++ (p, g) :: lb).length ≤ cap ∧ cap ≤ maxLen ∧ Blk W g0 63 cur ∧
    W.cell? ⟨g0, la.length * 4, none⟩ = some (.int .i64 p.page) ∧ W.cell? ⟨g0, la.length * 4 + 1, none⟩ = some (.int .i64 (hd p.free)) ∧ W.cell? ⟨g0, la.length * 4 + 2, none⟩ = some (.int .i64 (p.free.length : Int)) ∧ W.cell? ⟨g0, la.length * 4 + 3, none⟩ = some (.slice (some ⟨g, 0, none⟩) (perC c) (perC c)) := by
  obtain ⟨g0, cap, cur, hv, hB, hF, hc1, hc2, hcs, hcl⟩ := h.form (by simp; omega)
  have key : ∀ j, j < 4 → W.cell? ⟨g0, la.length * 4 + j, none⟩ = (spE c (p, g))[j]? := fun j hj => by
    rw [hcl _ (by simp; omega)]
    exact spF_at c la lb (p, g) j hj
  exact ⟨g0, cap, cur, hv, hF, hc1, hc2, hB, key 0 (by omega), key 1 (by omega), key 2 (by omega), key 3 (by omega)⟩
theorem PR.gmid (h : PR F ga gb gp c N M (la ++ (p, g) :: lb) v W) : Blk W g 4 (bls c p) ∧ F g ∧ FitP c N p ∧ Chn M p.free ∧ ∀ q ∈ la ++ lb, q.2 ≠ g := by
  have hm : (p, g) ∈ la ++ (p, g) :: lb := by simp
  refine ⟨h.bo _ hm, h.fq _ hm, h.gd.1 p (List.mem_map.2 ⟨_, hm, rfl⟩), h.ch _ hm, fun q hq e => ?_⟩
  have hn := h.nd
  rw [List.map_append, List.map_cons] at hn
  have h2 := List.pairwise_append.1 hn
  have h3 := List.pairwise_cons.1 h2.2.1
  rcases List.mem_append.1 hq with hq | hq
  · exact h2.2.2 q.2 (List.mem_map.2 ⟨q, hq, rfl⟩) g (by simp) e
  · exact h3.1 q.2 (List.mem_map.2 ⟨q, hq, rfl⟩) e.symm
/-- One span's free stacks turned. -/
theorem PR.turn (h : PR F ga gb gp c N M (la ++ (p, g) :: lb) v W) {M' : List Int} {f : List Int} (ar : Ar V ga gb M') (ml : M'.length = N * 64) (pl : Blk V gp 61 #[.int .i64 c, v])
    (row : V.ownsRow 0 63 4 v (la ++ (p, g) :: lb).length (spF c (la ++ (⟨p.page, f⟩, g) :: lb))) (bo : Blk V g 4 (bls c ⟨p.page, f⟩)) (ob : ∀ q ∈ la ++ lb, V.heap[q.2]? = W.heap[q.2]?) (hs : W.heap.size ≤ V.heap.size)
    (hf : FitP c N ⟨p.page, f⟩) (ch : Chn M' f) (co : ∀ q ∈ la ++ lb, Chn M' q.1.free) : PR F ga gb gp c N M' (la ++ (⟨p.page, f⟩, g) :: lb) v V := by
  have hgd := h.gd
  rw [List.map_append, List.map_cons] at hgd
  have hm := hgd.mid
  refine ⟨ar, ml, pl, by rw [show (la ++ ((⟨p.page, f⟩ : Pt), g) :: lb).length = (la ++ (p, g) :: lb).length by simp]; exact row, fun q hq => ?_, ?_, fun q hq => ?_, ?_, h.cc, h.nn, h.fa, h.fv, fun q hq => ?_, fun k hk => Nat.lt_of_lt_of_le (h.fb k hk) hs⟩
  · rcases List.mem_append.1 hq with hq | hq
    · exact (ob q (by simp [hq])).trans (h.bo q (by simp [hq]))
    · rcases List.mem_cons.1 hq with rfl | hq
      · exact bo
      · exact (ob q (by simp [hq])).trans (h.bo q (by simp [hq]))
  · have := h.nd
    rw [List.map_append, List.map_cons] at this ⊢
    exact this
  · rcases List.mem_append.1 hq with hq | hq
    · exact co q (by simp [hq])
    · rcases List.mem_cons.1 hq with rfl | hq
      · exact ch
      · exact co q (by simp [hq])
  · rw [List.map_append, List.map_cons]
    exact hm.2.2.2.put_mid hf hm.2.1 hm.2.2.1
  · rcases List.mem_append.1 hq with hq | hq
    · exact h.fq q (by simp [hq])
    · rcases List.mem_cons.1 hq with rfl | hq
      · exact h.fq (p, g) (by simp)
      · exact h.fq q (by simp [hq])
end
theorem map_mid {L : List (Pt × Nat)} {a b : List Pt} {p : Pt} (h : L.map (·.1) = a ++ p :: b) : ∃ la g lb, L = la ++ (p, g) :: lb ∧ la.map (·.1) = a ∧ lb.map (·.1) = b := by
  obtain ⟨la, l2, rfl, h1, h2⟩ := List.map_eq_append_iff.1 h
  obtain ⟨q, lb, rfl, h3, h4⟩ := List.map_eq_cons_iff.1 h2
  exact ⟨la, q.2, lb, by rw [← h3], h1, h4⟩
/-- The first span that has a free stack. -/
def idxP : List Pt → Nat → Int
  | [], _ => -1
  | p :: L, i => if 0 < p.free.length then (i : Int) else idxP L (i + 1)
theorem idxP_drop (L : List Pt) (i : Nat) (hi : i < L.length) : idxP (L.drop i) i = if 0 < L[i].free.length then (i : Int) else idxP (L.drop (i + 1)) (i + 1) := by
  rw [List.drop_eq_getElem_cons hi]; rfl
theorem takeP_split : ∀ (L : List Pt), (takeP L = none ∧ (∀ p ∈ L, p.free = []) ∧ ∀ i, idxP L i = -1) ∨ ∃ pre p x l suf, L = pre ++ p :: suf ∧ (∀ q ∈ pre, q.free = []) ∧ p.free = x :: l ∧ takeP L = some (pre ++ ⟨p.page, l⟩ :: suf, x) ∧ ∀ i : Nat, idxP L i = (i : Int) + (pre.length : Nat) := by
  intro L
  induction L with
  | nil => exact .inl ⟨rfl, by simp, fun _ => rfl⟩
  | cons p L ih =>
    cases hf : p.free with
    | cons x l =>
      refine .inr ⟨[], p, x, l, L, rfl, by simp, hf, ?_, fun i => ?_⟩
      · simp only [takeP, hf]; rfl
      · simp [idxP, hf]
    | nil =>
      rcases ih with ⟨h1, h2, h3⟩ | ⟨pre, q, x, l, suf, h1, h2, h3, h4, h5⟩
      · refine .inl ⟨by simp only [takeP, hf, h1], fun q hq => ?_, fun i => ?_⟩
        · rcases List.mem_cons.1 hq with rfl | hq
          · exact hf
          · exact h2 q hq
        · simp only [idxP, hf]; rw [if_neg (by simp)]; exact h3 _
      · refine .inr ⟨p :: pre, q, x, l, suf, by rw [h1]; rfl, fun r hr => ?_, h3, by simp only [takeP, hf, h4]; rfl, fun i => ?_⟩
        · rcases List.mem_cons.1 hr with rfl | hr
          · exact hf
          · exact h2 r hr
        · simp only [idxP, hf]; rw [if_neg (by simp), h5]; simp; omega

set_option maxHeartbeats 400000 in
theorem pos_sp (x0 x1 x2 : Int) (sl : Value) (w : World) : Calls Try.prog 30 #[.agg #[.int .i64 x0, .int .i64 x1, .int .i64 x2, sl]] w fun e w' => e = .returned (.bool (decide (0 < x2))) ∧ Below w.heap.size w w' := by
  go_enter Try.func30, Try.ntmps30
  go_wp2
  go_ret
  exact ⟨rfl, below_alloc (Below.refl _ _) _⟩
set_option maxRecDepth 100000 in
set_option maxHeartbeats 2000000 in
theorem index_sp (f : Nat) (cs : Array Value) {F : Nat → Prop} {ga gb gp : Nat} {c : Int} {N : Nat} {M : List Int} {L : List (Pt × Nat)} {A : Option Addr} {cap : Nat} {w : World} (eg : ∀ args W, (callFunc f args).run Try.prog W = .ok (.enter f args) W) (h : PR F ga gb gp c N M L (.slice A L.length cap) w)
    (hcl : ∀ (W : World) (x0 x1 x2 : Int) (sl : Value), Calls Try.prog f (#[.agg #[.int .i64 x0, .int .i64 x1, .int .i64 x2, sl]] ++ cs) W fun e w' => e = .returned (.bool (decide (0 < x2))) ∧ Below W.heap.size W w') :
    Calls Try.prog 29 #[.slice A L.length cap, .func (.func f) #[] cs] w fun e w' => e = .returned (.int .i64 (idxP (L.map (·.1)) 0)) ∧ Below w.heap.size w w' := by
  have hu := Try.underlying63
  have HP := Sh.mk h
  have HCL := Sh.mk hcl
  have hlen := h.llen
  obtain ⟨r, hr⟩ : ∃ r, r = idxP (L.map (·.1)) 0 := ⟨_, rfl⟩
  rw [← hr]
  have HRR : Sh (r = idxP ((L.map (·.1)).drop 0) 0) := ⟨hr⟩
  obtain ⟨x4, hx4⟩ : ∃ x, x = perC c := ⟨_, rfl⟩
  have HX4 := Sh.mk hx4
  clear h hr hx4 hcl
  go_enter Try.func29, Try.ntmps29
  go_wp2
  go_loopw [8] (fun i wr => ∃ k : Nat, k ≤ L.length ∧ i = .int .i64 k ∧ Sh (r = idxP ((L.map (·.1)).drop k) k) ∧ Sh (Below w.heap.size w wr)) (fun i _ => L.length - (intOf i).toNat)
  case atStart => exact ⟨0, Nat.zero_le _, rfl, HRR, ⟨Below.refl _ _⟩⟩
  case round =>
    clear HRR
    obtain ⟨i, hk, rfl, HN, HB⟩ := hrel
    by_cases hlt : i < L.length
    · obtain ⟨g0, cap', hv, hF, hc2, hc3, hfz, k0, k1, k2, k3⟩ := (HP.out.below HB.out).at_ i hlt
      simp only [Value.slice.injEq] at hv
      obtain ⟨rfl, _, rfl⟩ := hv
      have hn := HN.out
      rw [idxP_drop _ _ (by rw [List.length_map]; exact hlt), List.getElem_map] at hn
      obtain ⟨x0, hx0⟩ : ∃ x, x = L[i].1.page := ⟨_, rfl⟩
      obtain ⟨x1, hx1⟩ : ∃ x, x = hd L[i].1.free := ⟨_, rfl⟩
      obtain ⟨x2, hx2⟩ : ∃ x : Nat, x = L[i].1.free.length := ⟨_, rfl⟩
      obtain ⟨x3, hx3⟩ : ∃ x, x = L[i].2 := ⟨_, rfl⟩
      rw [← hx0] at k0
      rw [← hx1] at k1
      rw [← hx2] at k2 hn
      rw [← hx3, ← HX4.out] at k3
      clear hx0 hx1 hx2 hx3 hfz hF hc3 HN
      by_cases h0 : 0 < x2
      · rw [if_pos h0] at hn
        have HV := Sh.mk hn
        have HC : Sh (Calls Try.prog f (#[.agg #[.int .i64 x0, .int .i64 x1, .int .i64 (x2 : Nat), .slice (some ⟨x3, 0, none⟩) x4 x4]] ++ cs) wr fun e w' => e = .returned (.bool true) ∧ Below wr.heap.size wr w') := ⟨by have h := HCL.out wr x0 x1 (x2 : Nat) (.slice (some ⟨x3, 0, none⟩) x4 x4); rw [decide_eq_true (by omega)] at h; exact h⟩
        clear hn h0
        go_wp2_with (go_at_fn f; (with_reducible refine HC.out.mono ?_); rintro e w2 ⟨rfl, h2⟩; have H2 := Sh.mk h2; clear h2)
        go_ret
        exact ⟨by obtain rfl := HV.out; rfl, below_step HB.out H2.out⟩
      · rw [if_neg h0] at hn
        have HV := Sh.mk hn
        have HC : Sh (Calls Try.prog f (#[.agg #[.int .i64 x0, .int .i64 x1, .int .i64 (x2 : Nat), .slice (some ⟨x3, 0, none⟩) x4 x4]] ++ cs) wr fun e w' => e = .returned (.bool false) ∧ Below wr.heap.size wr w') := ⟨by have h := HCL.out wr x0 x1 (x2 : Nat) (.slice (some ⟨x3, 0, none⟩) x4 x4); rw [decide_eq_false (by omega)] at h; exact h⟩
        clear hn h0
        go_wp2_with (go_at_fn f; (with_reducible refine HC.out.mono ?_); rintro e w2 ⟨rfl, h2⟩; have H2 := Sh.mk h2; clear h2)
        go_roundw
        case rel => exact ⟨i + 1, by omega, by go_num, HV, ⟨below_step HB.out H2.out⟩⟩
        case measure => simp [intOf]; omega
    · obtain rfl : i = L.length := by omega
      have HR : Sh (r = -1) := ⟨by rw [HN.out, List.drop_of_length_le (by rw [List.length_map]; omega)]; rfl⟩
      go_wp2
      go_ret
      exact ⟨by obtain rfl := HR.out; rfl, HB.out⟩
theorem index_pos {F : Nat → Prop} {ga gb gp : Nat} {c : Int} {N : Nat} {M : List Int} {L : List (Pt × Nat)} {A : Option Addr} {cap : Nat} {w : World} (h : PR F ga gb gp c N M L (.slice A L.length cap) w) :
    Calls Try.prog 29 #[.slice A L.length cap, .func (.func 30) #[] #[]] w fun e w' => e = .returned (.int .i64 (idxP (L.map (·.1)) 0)) ∧ Below w.heap.size w w' :=
  index_sp 30 #[] (enters_of Try.func30 (by kernel_rfl) rfl) h (fun W x0 x1 x2 sl => pos_sp x0 x1 x2 sl W)
end Go.Proofs.Ytmmpdpnonnjadaa
