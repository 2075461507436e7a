/- A pool in memory: the words, the spans' row, each span's flags. No statement is proved here. -/
import Derived.Test.YtmmpdpnonnjadaaPoolPure
import Derived.Test.YtmmpdpnonnjadaaIns3Sp
import Derived.Test.YtmmpdpnonnjadaaDelSp
namespace Go.Proofs.Ytmmpdpnonnjadaa
set_option linter.unusedVariables false
set_option linter.unusedSimpArgs false
open Go.RowKit Go.Proofs.YtmmpdpnonnjadaaW.PrintWords Go.Proofs.YtmmpdpnonnjadaaW.PrintLast Go.Proofs.YtmmpdpnonnjadaaW.PrintMore Pr

/-- All blocks but those of F are as they were; new ones may have come. -/
structure Kq (F : Nat → Prop) (w w' : World) : Prop where
  os : w'.os = w.os
  tape : w'.tape = w.tape
  output : w'.output = w.output
  size : w.heap.size ≤ w'.heap.size
  block : ∀ k, k < w.heap.size → ¬ F k → w'.heap[k]? = w.heap[k]?
section
variable {F F' : Nat → Prop} {a b c w w' : World} {S : List Nat}
theorem Kq.refl (F : Nat → Prop) (w : World) : Kq F w w := ⟨rfl, rfl, rfl, Nat.le_refl _, fun _ _ _ => rfl⟩
theorem Kq.step (h : Kq F a b) (k : Kq F' b c) (hs : ∀ g, F' g → F g ∨ a.heap.size ≤ g) : Kq F a c :=
  ⟨k.os.trans h.os, k.tape.trans h.tape, k.output.trans h.output, Nat.le_trans h.size k.size, fun i hi hn => (k.block i (Nat.lt_of_lt_of_le hi h.size) (fun hm => by
    rcases hs i hm with h1 | h1
    · exact hn h1
    · omega)).trans (h.block i hi hn)⟩
theorem Kq.of_kp (h : Kp S w w') (hs : ∀ g, g ∈ S → F g) : Kq F w w' := ⟨h.os, h.tape, h.output, h.size, fun k hk hn => h.block k hk (fun hm => hn (hs k hm))⟩
theorem Kq.of_below (h : Below w.heap.size w w') : Kq F w w' := ⟨h.os, h.tape, h.output, h.size, fun k hk _ => h.block k hk⟩
theorem Kq.of_grown {row : Option Nat} (h : w.grownBy w' row) (hs : ∀ k, row = some k → F k) : Kq F w w' := ⟨h.os, h.tape, h.output, h.size, fun k hk hn => h.block k hk (fun e => hn (hs k e.symm))⟩
theorem Kq.mono (h : Kq F w w') (hs : ∀ g, F g → F' g) : Kq F' w w' := ⟨h.os, h.tape, h.output, h.size, fun k hk hn => h.block k hk (fun hm => hn (hs k hm))⟩
theorem Kq.set_ (h : Kq F a w) {p : Addr} (hp : F p.block ∨ a.heap.size ≤ p.block) (u : Value) : Kq F a (w.setCell p u) :=
  ⟨h.os, h.tape, h.output, by have := h.size; simpa [World.setCell] using this, fun k hk hn => (Below.heap_setCell _ _ _ _ (by
    rintro rfl
    rcases hp with h1 | h1
    · exact hn h1
    · omega)).trans (h.block k hk hn)⟩
theorem Kq.toBelow (h : Kq F w w') {B : Nat} (hB : B ≤ w.heap.size) (hs : ∀ g, F g → B ≤ g) : Below B w w' :=
  ⟨h.os, h.tape, h.output, h.size, fun k hk => h.block k (by omega) (fun hm => by have := hs k hm; omega)⟩
theorem Blk.kq {g : Nat} {t : TypeId} {cs : Array Value} (h : Blk w g t cs) (k : Kq F w w') (hn : ¬ F g) : Blk w' g t cs := (k.block g h.lt hn).trans h
end

/-- A span's cells. -/
def spE (c : Int) (q : Pt × Nat) : List Value := [.int .i64 q.1.page, .int .i64 (hd q.1.free), .int .i64 (q.1.free.length : Int), .slice (some ⟨q.2, 0, none⟩) (perC c) (perC c)]
def spF (c : Int) : List (Pt × Nat) → List Value
  | [] => []
  | q :: L => spE c q ++ spF c L
theorem spF_len (c : Int) (L : List (Pt × Nat)) : (spF c L).length = L.length * 4 := by
  induction L with
  | nil => rfl
  | cons q L ih => simp only [spF, List.length_append, ih, List.length_cons]; simp [spE]; omega
theorem spF_app (c : Int) (a b : List (Pt × Nat)) : spF c (a ++ b) = spF c a ++ spF c b := by
  induction a with
  | nil => rfl
  | cons q a ih => simp only [List.cons_append, spF, ih, List.append_assoc]
theorem spF_take (c : Int) (L : List (Pt × Nat)) (i : Nat) : (spF c L).take (i * 4) = spF c (L.take i) := by
  by_cases h : i ≤ L.length
  · have h1 : spF c L = spF c (L.take i) ++ spF c (L.drop i) := by rw [← spF_app, List.take_append_drop]
    have h2 : (spF c (L.take i)).length = i * 4 := by rw [spF_len, List.length_take, Nat.min_eq_left h]
    rw [h1, List.take_append_of_le_length (by omega), List.take_of_length_le (by omega)]
  · rw [List.take_of_length_le (by rw [spF_len]; omega), List.take_of_length_le (by omega)]
theorem spF_drop (c : Int) (L : List (Pt × Nat)) (i : Nat) : (spF c L).drop (i * 4) = spF c (L.drop i) := by
  by_cases h : i ≤ L.length
  · have h1 : spF c L = spF c (L.take i) ++ spF c (L.drop i) := by rw [← spF_app, List.take_append_drop]
    have h2 : (spF c (L.take i)).length = i * 4 := by rw [spF_len, List.length_take, Nat.min_eq_left h]
    rw [h1, List.drop_append_of_le_length (by omega), List.drop_of_length_le (by omega)]; rfl
  · rw [List.drop_of_length_le (by rw [spF_len]; omega), List.drop_of_length_le (by omega)]; rfl
theorem spF_one (c : Int) (L : List (Pt × Nat)) : ∀ u ∈ spF c L, u.oneCell' = true := by
  induction L with
  | nil => intro u hu; cases hu
  | cons q L ih =>
    intro u hu
    simp only [spF, List.mem_append] at hu
    rcases hu with hu | hu
    · simp [spE] at hu
      rcases hu with rfl | rfl | rfl | rfl <;> rfl
    · exact ih u hu
theorem spF_at (c : Int) (a b : List (Pt × Nat)) (q : Pt × Nat) (j : Nat) (hj : j < 4) : (spF c (a ++ q :: b))[a.length * 4 + j]? = (spE c q)[j]? := by
  rw [spF_app, List.getElem?_append_right (by rw [spF_len]; omega), spF_len, Nat.add_sub_cancel_left]
  show (spE c q ++ spF c b)[j]? = _
  rw [List.getElem?_append_left (by show j < 4; exact hj)]
/-- Its flags. -/
def bls (c : Int) (p : Pt) : Array Value := ((List.range (perC c)).map (fun k => Value.bool (decide (adr c p.page k ∈ p.free)))).toArray
theorem bls_at (c : Int) (p : Pt) (k : Nat) (hk : k < perC c) : (bls c p)[k]? = some (.bool (decide (adr c p.page k ∈ p.free))) := by
  simp [bls, List.getElem?_map, List.getElem?_range hk]
theorem bls_size (c : Int) (p : Pt) : (bls c p).size = perC c := by simp [bls]
theorem bls_set {c : Int} (hc : 0 ≤ c ∧ c ≤ 3) (p : Pt) (f : List Int) (k : Nat) (hk : k < perC c) (b : Bool) (hb : b = decide (adr c p.page k ∈ f)) (ho : ∀ j, j < perC c → j ≠ k → (adr c p.page j ∈ f ↔ adr c p.page j ∈ p.free)) : (bls c p).setIfInBounds k (.bool b) = bls c ⟨p.page, f⟩ := by
  apply Array.ext
  · simp [bls_size]
  · intro j h1 h2
    have hj : j < perC c := by rw [bls_size] at h2; exact h2
    rw [← Option.some.injEq, ← Array.getElem?_eq_getElem, ← Array.getElem?_eq_getElem, bls_at _ _ _ hj, Array.getElem?_setIfInBounds]
    by_cases e : k = j
    · subst e
      rw [if_pos rfl, if_pos (by rw [bls_size]; exact hk), hb]
    · rw [if_neg e, bls_at _ _ _ hj]
      have := ho j hj (fun h => e h.symm)
      show some (Value.bool _) = some (Value.bool _)
      congr 2
      exact decide_eq_decide.2 this.symm
/-- The pool in memory. -/
structure PR (F : Nat → Prop) (ga gb gp : Nat) (c : Int) (N : Nat) (M : List Int) (L : List (Pt × Nat)) (v : Value) (W : World) : Prop where
  ar : Ar W ga gb M
  ml : M.length = N * 64
  pl : Blk W gp 61 #[.int .i64 c, v]
  row : W.ownsRow 0 63 4 v L.length (spF c L)
  bo : ∀ q ∈ L, Blk W q.2 4 (bls c q.1)
  nd : (L.map (·.2)).Nodup
  ch : ∀ q ∈ L, Chn M q.1.free
  gd : Good c N (L.map (·.1))
  cc : 0 ≤ c ∧ c ≤ 3
  nn : 1 ≤ N ∧ N ≤ 256
  fa : F ga ∧ F gb ∧ F gp
  fv : ∀ k, v.ownBlock = some k → F k
  fq : ∀ q ∈ L, F q.2
  fb : ∀ k, F k → k < W.heap.size
def PSt (F : Nat → Prop) (ga gp : Nat) (c : Int) (N : Nat) (Ps : List Pt) (W : World) : Prop := ∃ gb M L v, L.map (·.1) = Ps ∧ PR F ga gb gp c N M L v W
/-- What a call leaves. -/
def Aft (F : Nat → Prop) (ga gp : Nat) (c : Int) (N : Nat) (Ps : List Pt) (W W' : World) : Prop := ∃ F', PSt F' ga gp c N Ps W' ∧ (∀ k, F' k → F k ∨ W.heap.size ≤ k) ∧ Kq F W W'
section
variable {F : Nat → Prop} {ga gb gp : Nat} {c : Int} {N : Nat} {M : List Int} {L : List (Pt × Nat)} {v : Value} {W W' : World} {Ps : List Pt}
theorem PR.keep (h : PR F ga gb gp c N M L v W) (hk : ∀ k, F k → W'.heap[k]? = W.heap[k]?) (hs : W.heap.size ≤ W'.heap.size) : PR F ga gb gp c N M L v W' :=
  ⟨⟨(hk _ h.fa.1).trans h.ar.st, (hk _ h.fa.2.1).trans h.ar.ws, h.ar.small⟩, h.ml, (hk _ h.fa.2.2).trans h.pl, own_move h.row (fun k e => hk k (h.fv k e)), fun q hq => (hk _ (h.fq q hq)).trans (h.bo q hq), h.nd, h.ch, h.gd, h.cc, h.nn, h.fa, h.fv, h.fq, fun k hf => Nat.lt_of_lt_of_le (h.fb k hf) hs⟩
theorem PR.below (h : PR F ga gb gp c N M L v W) (hb : Below W.heap.size W W') : PR F ga gb gp c N M L v W' := h.keep (fun k hk => hb.block k (h.fb k hk)) hb.size
theorem PSt.below (h : PSt F ga gp c N Ps W) (hb : Below W.heap.size W W') : PSt F ga gp c N Ps W' := by
  obtain ⟨gb, M, L, v, e, h⟩ := h; exact ⟨gb, M, L, v, e, h.below hb⟩
theorem PSt.keep (h : PSt F ga gp c N Ps W) (hk : ∀ k, F k → W'.heap[k]? = W.heap[k]?) (hs : W.heap.size ≤ W'.heap.size) : PSt F ga gp c N Ps W' := by
  obtain ⟨gb, M, L, v, e, h⟩ := h; exact ⟨gb, M, L, v, e, h.keep hk hs⟩
theorem PSt.good (h : PSt F ga gp c N Ps W) : Good c N Ps := by obtain ⟨gb, M, L, v, rfl, h⟩ := h; exact h.gd
theorem PSt.bound (h : PSt F ga gp c N Ps W) : ∀ k, F k → k < W.heap.size := by obtain ⟨gb, M, L, v, rfl, h⟩ := h; exact h.fb
theorem PSt.cls (h : PSt F ga gp c N Ps W) : (0 ≤ c ∧ c ≤ 3) ∧ (1 ≤ N ∧ N ≤ 256) := by obtain ⟨gb, M, L, v, rfl, h⟩ := h; exact ⟨h.cc, h.nn⟩
theorem PSt.len (h : PSt F ga gp c N Ps W) : Ps.length ≤ 32 := by have := h.good.len; have := h.cls.2; omega
/-- Nothing turned. -/
theorem PSt.same (h : PSt F ga gp c N Ps W) (hb : Below W.heap.size W W') : Aft F ga gp c N Ps W W' := ⟨F, h.below hb, fun k hk => .inl hk, Kq.of_below hb⟩
theorem PR.slice (h : PR F ga gb gp c N M L v W) : ∃ A cap, v = .slice A L.length cap ∧ L.length ≤ cap := by
  rcases h.row.2 with ⟨rfl, h0⟩ | ⟨g, cap, cur, rfl, hbg, hg, hnc, _⟩
  · exact ⟨none, 0, by rw [h0], by omega⟩
  · exact ⟨_, cap, rfl, hnc⟩
theorem PR.llen (h : PR F ga gb gp c N M L v W) : L.length ≤ 32 := by have := h.gd.len; have := h.nn; rw [List.length_map] at *; omega
/-- The row, where it has a span. -/
theorem PR.form (h : PR F ga gb gp c N M L v W) (hl : 0 < L.length) : ∃ g0 cap cur, v = .slice (some ⟨g0, 0, none⟩) L.length cap ∧ Blk W g0 63 cur ∧ F g0 ∧ L.length ≤ cap ∧ cap ≤ maxLen ∧ cur.size = cap * 4 ∧ ∀ j, j < L.length * 4 → W.cell? ⟨g0, j, none⟩ = (spF c L)[j]? := by
  rcases h.row.2 with ⟨rfl, h0⟩ | ⟨g, cap, cur, rfl, hbg, hg, hnc, hcm, hcs, htk⟩
  · omega
  · refine ⟨g, cap, cur, rfl, hg, h.fv g rfl, hnc, hcm, hcs, fun j hj => ?_⟩
    rw [show W.cell? ⟨g, j, none⟩ = cur[j]? from Blk.cell (show Blk W g 63 cur from hg) j, ← htk, List.getElem?_take, if_pos hj]
    simp
theorem PR.at_ (h : PR F ga gb gp c N M L v W) (i : Nat) (hi : i < L.length) : ∃ g0 cap, v = .slice (some ⟨g0, 0, none⟩) L.length cap ∧ F g0 ∧ L.length ≤ cap ∧ cap ≤ maxLen ∧ (∀ j, W.frozen? ⟨g0, j, none⟩ = false) ∧
    W.cell? ⟨g0, i * 4, none⟩ = some (.int .i64 L[i].1.page) ∧ W.cell? ⟨g0, i * 4 + 1, none⟩ = some (.int .i64 (hd L[i].1.free)) ∧ W.cell? ⟨g0, i * 4 + 2, none⟩ = some (.int .i64 (L[i].1.free.length : Int)) ∧ W.cell? ⟨g0, i * 4 + 3, none⟩ = some (.slice (some ⟨L[i].2, 0, none⟩) (perC c) (perC c)) := by
  obtain ⟨g0, cap, cur, hv, hB, hF, hc1, hc2, hcs, hcl⟩ := h.form (by omega)
  have e1 : L = L.take i ++ L[i] :: L.drop (i + 1) := by rw [← List.drop_eq_getElem_cons hi, List.take_append_drop]
  have e2 : (L.take i).length = i := by rw [List.length_take]; omega
  have key : ∀ j, j < 4 → W.cell? ⟨g0, i * 4 + j, none⟩ = (spE c L[i])[j]? := fun j hj => by
    rw [hcl _ (by omega)]
    have := spF_at c (L.take i) (L.drop (i + 1)) L[i] j hj
    rw [← e1, e2] at this
    exact this
  exact ⟨g0, cap, hv, hF, hc1, hc2, fun j => hB.frozen j, key 0 (by omega), key 1 (by omega), key 2 (by omega), key 3 (by omega)⟩
end
theorem own_set {w : World} {g : Nat} {e : TypeId} {n cap : Nat} {xs : List Value} (h : w.ownsRow 0 e 4 (.slice (some ⟨g, 0, none⟩) n cap) n xs) (m : Nat) (u : Value) : (w.setCell ⟨g, m, none⟩ u).ownsRow 0 e 4 (.slice (some ⟨g, 0, none⟩) n cap) n (xs.set m u) := by
  refine ⟨by rw [List.length_set]; exact h.1, ?_⟩
  rcases h.2 with ⟨h1, _⟩ | ⟨g', cap', cur, hv, hbg, hg, hnc, hcm, hcs, htk⟩
  · cases h1
  · simp only [Value.slice.injEq, Option.some.injEq, Addr.mk.injEq] at hv
    obtain ⟨⟨rfl, _, _⟩, _, rfl⟩ := hv
    refine .inr ⟨g, cap, cur.setIfInBounds m u, rfl, hbg, Blk.set_ (show Blk w g e cur from hg) m u, hnc, hcm, by rw [Array.size_setIfInBounds]; exact hcs, ?_⟩
    rw [Array.toList_setIfInBounds, List.take_set, htk]
theorem own_far {w : World} {p : Addr} {e : TypeId} {n : Nat} {v : Value} {xs : List Value} (h : w.ownsRow 0 e 4 v n xs) (hp : v.ownBlock ≠ some p.block) (u : Value) : (w.setCell p u).ownsRow 0 e 4 v n xs :=
  own_move h (fun k hk => Below.heap_setCell _ _ _ _ (by rintro rfl; exact hp hk))
/-- One span's head and number turned. -/
theorem spF_set (c : Int) (a b : List (Pt × Nat)) (p : Pt) (g : Nat) (f : List Int) : ((spF c (a ++ (p, g) :: b)).set (a.length * 4 + 1) (.int .i64 (hd f))).set (a.length * 4 + 2) (.int .i64 (f.length : Int)) = spF c (a ++ (⟨p.page, f⟩, g) :: b) := by
  rw [spF_app, spF_app]
  have h := spF_len c a
  rw [List.set_append_right _ _ (by omega), List.set_append_right _ _ (by omega), h, Nat.add_sub_cancel_left, Nat.add_sub_cancel_left]
  rfl
end Go.Proofs.Ytmmpdpnonnjadaa
