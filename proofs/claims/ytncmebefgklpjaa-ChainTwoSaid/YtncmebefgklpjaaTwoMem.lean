/- Two chains in one arena: what the memory holds. No statement is proved here. -/
import Derived.Test.YtncmebefgklpjaaTwoLaw
namespace Go.Proofs.Ytncmebefgklpjaa
set_option linter.unusedVariables false
set_option linter.unusedSimpArgs false
open Go.RowKit Go.Proofs.YtncmebefgklpjaaW.PrintWords Go.Proofs.YtncmebefgklpjaaW.PrintLast Go.Proofs.YtncmebefgklpjaaW.PrintMore

/-- A row of one's own, its last one left out. -/
theorem R_init {e base : Nat} {ok : Nat → Prop} {W : World} {A : Option Addr} {c : Nat} {L : List Int} {x : Int} (h : Kd.R (Kd.int .i64) e W base ok (.slice A (L ++ [x]).length c) (L ++ [x])) : Kd.R (Kd.int .i64) e W base ok (.slice A L.length c) L := by
  obtain ⟨h0, inner, hown, hr⟩ := h
  have hin : inner = encs (Value.int .i64) (L ++ [x]) := Kd.reps_encs hr
  subst hin
  have hsz : (Kd.int IntKind.i64).sz = 1 := rfl
  rw [hsz] at hown
  rcases hown.2 with ⟨h1, _⟩ | ⟨g, cap, cur, hv, hbg, hg, hnc, hcm, hcs, htk⟩
  · simp at h1
  · simp only [Value.slice.injEq] at hv
    obtain ⟨hA, _, hc⟩ := hv
    refine ⟨fun k hk => h0 k (by rw [hA] at hk ⊢; exact hk), encs (Value.int .i64) L, ⟨by rw [hsz]; simp [encs], .inr ⟨g, cap, cur, by rw [hA, hc], hbg, hg, ?_, hcm, hcs, ?_⟩⟩, Kd.reps_scalar L⟩
    · rw [List.length_append] at hnc
      simp at hnc
      omega
    · rw [hsz]
      have h2 := congrArg (List.take (L.length * 1)) htk
      rw [List.take_take] at h2
      rw [show min (L.length * 1) ((L ++ [x]).length * 1) = L.length * 1 by simp] at h2
      rw [h2, encs_append, List.take_left' (by simp [encs])]
theorem ownB_len (A : Option Addr) (n n' c : Nat) : (Value.slice A n c).ownBlock = (Value.slice A n' c).ownBlock := by cases A <;> rfl
structure TW (w : World) (ga gb g7 g8 b : Nat) (A : Option Addr) (l M L0 L1 : List Int) (h0 h1 : Int) (v0 v1 : Value) (W : World) : Prop where
  ar : Ar W ga gb M
  b7 : Blk W g7 64 #[v0, v1]
  b8 : Blk W g8 65 #[.int .i64 h0, .int .i64 h1]
  r0 : Kd.R (Kd.int .i64) 3 W b (fun k => b ≤ k ∧ some k ≠ v1.ownBlock) v0 L0
  r1 : Kd.R (Kd.int .i64) 3 W b (fun k => b ≤ k ∧ some k ≠ v0.ownBlock) v1 L1
  pl : Kd.F (Kd.int .i64) W (fun k => k < b ∧ k ≠ gb ∧ k ≠ g7 ∧ k ≠ g8) A l.length l
  lt : (ga < b ∧ gb < b ∧ g7 < b ∧ g8 < b) ∧ (g7 ≠ g8 ∧ ga ≠ g7 ∧ gb ≠ g7 ∧ ga ≠ g8 ∧ gb ≠ g8) ∧ (w.heap.size ≤ gb ∧ w.heap.size ≤ g7 ∧ w.heap.size ≤ g8 ∧ w.heap.size ≤ b)
  sz : b ≤ W.heap.size
  bl : Below w.heap.size w W
section
variable {w : World} {ga gb g7 g8 b : Nat} {A : Option Addr} {l M L0 L1 : List Int} {h0 h1 : Int} {v0 v1 : Value} {W W' : World}
theorem TW.kp0 (h : TW w ga gb g7 g8 b A l M L0 L1 h0 h1 v0 v1 W) (k : Kp [] W W') : TW w ga gb g7 g8 b A l M L0 L1 h0 h1 v0 v1 W' :=
  ⟨h.ar.kp k (by simp) (by simp), h.b7.kp k (by simp), h.b8.kp k (by simp), Kd.R_step h.r0 (fun i _ hi => k.block i hi (by simp)), Kd.R_step h.r1 (fun i _ hi => k.block i hi (by simp)), Kd.F_step h.pl (fun i _ hi => k.block i hi (by simp)), h.lt, Nat.le_trans h.sz k.size, below_then h.bl h.bl.size k.below⟩
theorem TW.push (h : TW w ga gb g7 g8 b A l M L0 L1 h0 h1 v0 v1 W) {M' : List Int} (a : Ar W' ga gb M') (k : Kp [gb] W W') : TW w ga gb g7 g8 b A l M' L0 L1 h0 h1 v0 v1 W' :=
  have hl := h.lt
  ⟨a, h.b7.kp k (by simp; omega), h.b8.kp k (by simp; omega), Kd.R_step h.r0 (fun i ho hi => k.block i hi (by have := ho.1; simp; omega)), Kd.R_step h.r1 (fun i ho hi => k.block i hi (by have := ho.1; simp; omega)), Kd.F_step h.pl (fun i ho hi => k.block i hi (by have := ho.2.1; simp; omega)), h.lt, Nat.le_trans h.sz k.size, h.bl.trans (k.toBelow h.bl.size (by simp; omega))⟩
theorem TW.hd0 (h : TW w ga gb g7 g8 b A l M L0 L1 h0 h1 v0 v1 W) (x : Int) : TW w ga gb g7 g8 b A l M L0 L1 x h1 v0 v1 (W.setCell ⟨g8, 0, none⟩ (.int .i64 x)) :=
  have hl := h.lt
  ⟨h.ar.kp ((Kp.refl [g8] W).set_ (by simp) _) (by simp; omega) (by simp; omega), h.b7.far (by show g7 ≠ g8; omega) _, h.b8.set_ 0 _, Kd.R_far (p := ⟨g8, 0, none⟩) h.r0 (fun k hk => by have := hk.1; show k ≠ g8; omega) _, Kd.R_far (p := ⟨g8, 0, none⟩) h.r1 (fun k hk => by have := hk.1; show k ≠ g8; omega) _, Kd.F_far (p := ⟨g8, 0, none⟩) h.pl (fun k hk => hk.2.2.2) _, h.lt, by simpa using h.sz, h.bl.setCell (p := ⟨g8, 0, none⟩) (by show w.heap.size ≤ g8; omega) _⟩
theorem TW.app0 (h : TW w ga gb g7 g8 b A l M L0 L1 h0 h1 v0 v1 W) {u : Value} {L : List Int} {w1 : World} (ho : Kd.R (Kd.int .i64) 3 w1 b (fun k => b ≤ k ∧ some k ≠ v1.ownBlock) u L) (hb : Below b W w1) (hg : W.grownBy w1 v0.ownBlock) (hat : u.ownBlock = v0.ownBlock ∨ ∃ q, u.ownBlock = some q ∧ W.heap.size ≤ q) :
    TW w ga gb g7 g8 b A l M L L1 h0 h1 u v1 (w1.setCell ⟨g7, 0, none⟩ u) := by
  have hl := h.lt
  have e1 : Kd.R (Kd.int .i64) 3 w1 b (fun k => b ≤ k ∧ some k ≠ u.ownBlock) v1 L1 := by
    have h1 : Kd.R (Kd.int .i64) 3 W b (fun k => b ≤ k ∧ some k ≠ v0.ownBlock) v1 L1 := h.r1
    exact Kd.R_after h1 hg hat
  refine ⟨(Ar.kp (S := []) ?_ ((Kp.refl [] _)) (by simp) (by simp)).kp ((Kp.refl [g7] w1).set_ (by simp) _) (by simp; omega) (by simp; omega), ?_, ?_, Kd.R_far (p := ⟨g7, 0, none⟩) ho (fun k hk => by have := hk.1; show k ≠ g7; omega) _, Kd.R_far (p := ⟨g7, 0, none⟩) e1 (fun k hk => by have := hk.1; show k ≠ g7; omega) _, ?_, h.lt, ?_, ?_⟩
  · exact ⟨(hb.block _ hl.1.1).trans h.ar.st, (hb.block _ hl.1.2.1).trans h.ar.ws, h.ar.small⟩
  · exact Blk.set_ ((hb.block _ hl.1.2.2.1).trans h.b7) 0 u
  · exact Blk.far ((hb.block _ hl.1.2.2.2).trans h.b8) (by show g8 ≠ g7; omega) _
  · exact Kd.F_far (p := ⟨g7, 0, none⟩) (Kd.F_step h.pl (fun k hk _ => hb.block k hk.1)) (fun k hk => hk.2.2.1) _
  · have := h.sz; have := hb.size; simp; omega
  · exact (h.bl.trans (hb.mono hl.2.2.2.2.2)).setCell (p := ⟨g7, 0, none⟩) (by show w.heap.size ≤ g7; omega) _
theorem TW.pop0 {A1 : Option Addr} {c : Nat} {X : List Int} {y : Int} (h : TW w ga gb g7 g8 b A l M (X ++ [y]) L1 h0 h1 (.slice A1 (X ++ [y]).length c) v1 W) (r : Int) :
    TW w ga gb g7 g8 b A l M X L1 r h1 (.slice A1 X.length c) v1 ((W.setCell ⟨g8, 0, none⟩ (.int .i64 r)).setCell ⟨g7, 0, none⟩ (.slice A1 X.length c)) := by
  have hl := h.lt
  have h2 := h.hd0 r
  have e1 := Kd.R_far (p := ⟨g7, 0, none⟩) (R_init h2.r0) (fun k hk => by have := hk.1; show k ≠ g7; omega) (.slice A1 X.length c)
  have e2 : Kd.R (Kd.int .i64) 3 ((W.setCell ⟨g8, 0, none⟩ (.int .i64 r)).setCell ⟨g7, 0, none⟩ (.slice A1 X.length c)) b (fun k => b ≤ k ∧ some k ≠ (Value.slice A1 X.length c).ownBlock) v1 L1 := by rw [ownB_len A1 X.length (X ++ [y]).length c]; exact Kd.R_far (p := ⟨g7, 0, none⟩) h2.r1 (fun k hk => by have := hk.1; show k ≠ g7; omega) _
  exact ⟨h2.ar.kp ((Kp.refl [g7] _).set_ (by simp) _) (by simp; omega) (by simp; omega), h2.b7.set_ 0 _, h2.b8.far (by show g8 ≠ g7; omega) _, e1, e2, Kd.F_far (p := ⟨g7, 0, none⟩) h2.pl (fun k hk => hk.2.2.1) _, h.lt, by simpa using h2.sz, h2.bl.setCell (p := ⟨g7, 0, none⟩) (by show w.heap.size ≤ g7; omega) _⟩
theorem TW.hd1 (h : TW w ga gb g7 g8 b A l M L0 L1 h0 h1 v0 v1 W) (x : Int) : TW w ga gb g7 g8 b A l M L0 L1 h0 x v0 v1 (W.setCell ⟨g8, 1, none⟩ (.int .i64 x)) :=
  have hl := h.lt
  ⟨h.ar.kp ((Kp.refl [g8] W).set_ (by simp) _) (by simp; omega) (by simp; omega), h.b7.far (by show g7 ≠ g8; omega) _, h.b8.set_ 1 _, Kd.R_far (p := ⟨g8, 1, none⟩) h.r0 (fun k hk => by have := hk.1; show k ≠ g8; omega) _, Kd.R_far (p := ⟨g8, 1, none⟩) h.r1 (fun k hk => by have := hk.1; show k ≠ g8; omega) _, Kd.F_far (p := ⟨g8, 1, none⟩) h.pl (fun k hk => hk.2.2.2) _, h.lt, by simpa using h.sz, h.bl.setCell (p := ⟨g8, 1, none⟩) (by show w.heap.size ≤ g8; omega) _⟩
theorem TW.app1 (h : TW w ga gb g7 g8 b A l M L0 L1 h0 h1 v0 v1 W) {u : Value} {L : List Int} {w1 : World} (ho : Kd.R (Kd.int .i64) 3 w1 b (fun k => b ≤ k ∧ some k ≠ v0.ownBlock) u L) (hb : Below b W w1) (hg : W.grownBy w1 v1.ownBlock) (hat : u.ownBlock = v1.ownBlock ∨ ∃ q, u.ownBlock = some q ∧ W.heap.size ≤ q) :
    TW w ga gb g7 g8 b A l M L0 L h0 h1 v0 u (w1.setCell ⟨g7, 1, none⟩ u) := by
  have hl := h.lt
  have e1 : Kd.R (Kd.int .i64) 3 w1 b (fun k => b ≤ k ∧ some k ≠ u.ownBlock) v0 L0 := by
    have h1 : Kd.R (Kd.int .i64) 3 W b (fun k => b ≤ k ∧ some k ≠ v1.ownBlock) v0 L0 := h.r0
    exact Kd.R_after h1 hg hat
  refine ⟨(Ar.kp (S := []) ?_ ((Kp.refl [] _)) (by simp) (by simp)).kp ((Kp.refl [g7] w1).set_ (by simp) _) (by simp; omega) (by simp; omega), ?_, ?_, Kd.R_far (p := ⟨g7, 1, none⟩) e1 (fun k hk => by have := hk.1; show k ≠ g7; omega) _, Kd.R_far (p := ⟨g7, 1, none⟩) ho (fun k hk => by have := hk.1; show k ≠ g7; omega) _, ?_, h.lt, ?_, ?_⟩
  · exact ⟨(hb.block _ hl.1.1).trans h.ar.st, (hb.block _ hl.1.2.1).trans h.ar.ws, h.ar.small⟩
  · exact Blk.set_ ((hb.block _ hl.1.2.2.1).trans h.b7) 1 u
  · exact Blk.far ((hb.block _ hl.1.2.2.2).trans h.b8) (by show g8 ≠ g7; omega) _
  · exact Kd.F_far (p := ⟨g7, 1, none⟩) (Kd.F_step h.pl (fun k hk _ => hb.block k hk.1)) (fun k hk => hk.2.2.1) _
  · have := h.sz; have := hb.size; simp; omega
  · exact (h.bl.trans (hb.mono hl.2.2.2.2.2)).setCell (p := ⟨g7, 1, none⟩) (by show w.heap.size ≤ g7; omega) _
theorem TW.pop1 {A1 : Option Addr} {c : Nat} {X : List Int} {y : Int} (h : TW w ga gb g7 g8 b A l M L0 (X ++ [y]) h0 h1 v0 (.slice A1 (X ++ [y]).length c) W) (r : Int) :
    TW w ga gb g7 g8 b A l M L0 X h0 r v0 (.slice A1 X.length c) ((W.setCell ⟨g8, 1, none⟩ (.int .i64 r)).setCell ⟨g7, 1, none⟩ (.slice A1 X.length c)) := by
  have hl := h.lt
  have h2 := h.hd1 r
  have e1 := Kd.R_far (p := ⟨g7, 1, none⟩) (R_init h2.r1) (fun k hk => by have := hk.1; show k ≠ g7; omega) (.slice A1 X.length c)
  have e2 : Kd.R (Kd.int .i64) 3 ((W.setCell ⟨g8, 1, none⟩ (.int .i64 r)).setCell ⟨g7, 1, none⟩ (.slice A1 X.length c)) b (fun k => b ≤ k ∧ some k ≠ (Value.slice A1 X.length c).ownBlock) v0 L0 := by rw [ownB_len A1 X.length (X ++ [y]).length c]; exact Kd.R_far (p := ⟨g7, 1, none⟩) h2.r0 (fun k hk => by have := hk.1; show k ≠ g7; omega) _
  exact ⟨h2.ar.kp ((Kp.refl [g7] _).set_ (by simp) _) (by simp; omega) (by simp; omega), h2.b7.set_ 1 _, h2.b8.far (by show g8 ≠ g7; omega) _, e2, e1, Kd.F_far (p := ⟨g7, 1, none⟩) h2.pl (fun k hk => hk.2.2.1) _, h.lt, by simpa using h2.sz, h2.bl.setCell (p := ⟨g7, 1, none⟩) (by show w.heap.size ≤ g7; omega) _⟩
end
end Go.Proofs.Ytncmebefgklpjaa
