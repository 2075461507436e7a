/- Seven rows of pieces of one's own, in the order of a list of pieces with their rows' numbers; put, Whole over them. No statement is proved here. -/
import Derived.Test.YthbknmblehecaaaMadeCalls
import Derived.Test.YthbknmblehecaaaPrx34
namespace Go.Proofs.Ythbknmblehecaaa
set_option linter.unusedVariables false
set_option linter.unusedSimpArgs false
open Go.RowKit Go.Proofs.YthbknmblehecaaaW.PrintWords Go.Proofs.YthbknmblehecaaaW.PrintLast Go.Proofs.YthbknmblehecaaaW.PrintMore Pr Go.Proofs.Ythbknmblehecaaa.Pure

def at7 {α : Type} (x0 x1 x2 x3 x4 x5 x6 : α) : Fin 7 → α
  | ⟨0, _⟩ => x0
  | ⟨1, _⟩ => x1
  | ⟨2, _⟩ => x2
  | ⟨3, _⟩ => x3
  | ⟨4, _⟩ => x4
  | ⟨5, _⟩ => x5
  | ⟨6, _⟩ => x6
theorem all7 {p : Fin 7 → Prop} (h0 : p 0) (h1 : p 1) (h2 : p 2) (h3 : p 3) (h4 : p 4) (h5 : p 5) (h6 : p 6) : ∀ i, p i := by
  intro i
  obtain ⟨i, hi⟩ := i
  match i, hi with
  | 0, _ => exact h0
  | 1, _ => exact h1
  | 2, _ => exact h2
  | 3, _ => exact h3
  | 4, _ => exact h4
  | 5, _ => exact h5
  | 6, _ => exact h6
  | n + 7, h => omega
def selF (Q : List (Int × Pc)) : Fin 7 → List Pc := at7 (sel 1 Q) (sel 2 Q) (sel 3 Q) (sel 4 Q) (sel 5 Q) (sel 6 Q) (sel 7 Q)
/-- The seven rows, of one's own since w0, unlike one another. -/
structure Bag (w0 W : World) (As : Fin 7 → Option Addr) (ns cs : Fin 7 → Nat) (Q : List (Int × Pc)) : Prop where
  r : ∀ i, Kd.R k58 58 W w0.heap.size (fun _ => True) (.slice (As i) (ns i) (cs i)) (selF Q i)
  d : ∀ i j, i ≠ j → ∀ k, (Value.slice (As i) (ns i) (cs i)).ownBlock = some k → (Value.slice (As j) (ns j) (cs j)).ownBlock ≠ some k
section
variable {w0 W W' : World} {As : Fin 7 → Option Addr} {ns cs : Fin 7 → Nat} {Q : List (Int × Pc)}
theorem Bag.len (h : Bag w0 W As ns cs Q) (i : Fin 7) : ns i = (selF Q i).length ∧ ns i ≤ cs i := by
  have := Kd.R_reads' (h.r i); exact ⟨this.1, this.2.1⟩
theorem Bag.below (h : Bag w0 W As ns cs Q) (hb : Below W.heap.size W W') : Bag w0 W' As ns cs Q := ⟨fun i => Kd.R_below (h.r i) hb, h.d⟩
theorem Bag.put_ (h : Bag w0 W As ns cs Q) {g : Nat} {t : TypeId} {cells : Array Value} (hb : Blk W g t cells) (ht : t ≠ 58) (j : Nat) (u : Value) : Bag w0 (W.setCell ⟨g, j, none⟩ u) As ns cs Q :=
  ⟨fun i => Kd.R_set (h.r i) (show W.heap[g]? = some (.cells cells t (0, 0)) from hb) (by intro q hq; have : q = 58 := by simpa [show (k58).E = [] from rfl] using hq
                                                                                          rw [this]; exact fun e => ht e.symm) j u, h.d⟩
theorem Bag.none_ (hB : w0.heap.size ≤ W.heap.size) : Bag w0 W (fun _ => none) (fun _ => 0) (fun _ => 0) [] :=
  ⟨all7 (Kd.R_nil _ _ _ _ _) (Kd.R_nil _ _ _ _ _) (Kd.R_nil _ _ _ _ _) (Kd.R_nil _ _ _ _ _) (Kd.R_nil _ _ _ _ _) (Kd.R_nil _ _ _ _ _) (Kd.R_nil _ _ _ _ _), fun i j _ k hk => by simp [Value.ownBlock] at hk⟩
theorem Bag.seven (h : Bag w0 W As ns cs Q) : Seven W (As 0) (As 1) (As 2) (As 3) (As 4) (As 5) (As 6) (cs 0) (cs 1) (cs 2) (cs 3) (cs 4) (cs 5) (cs 6) (sel 1 Q) (sel 2 Q) (sel 3 Q) (sel 4 Q) (sel 5 Q) (sel 6 Q) (sel 7 Q) := by
  have key : ∀ i, Kd.C k58 W (As i) (selF Q i).length (selF Q i) ∧ (selF Q i).length ≤ cs i := fun i => by
    have := Kd.R_reads' (h.r i); exact ⟨this.2.2, by have := this.1; omega⟩
  exact ⟨key 0, key 1, key 2, key 3, key 4, key 5, key 6⟩
end
theorem own_type {w0 W : World} {v : Value} {l : List Pc} (h : Kd.R k58 58 W w0.heap.size (fun _ => True) v l) {g : Nat} {t : TypeId} {cells : Array Value} (hb : Blk W g t cells) (ht : t ≠ 58) : v.ownBlock ≠ some g := by
  intro he
  obtain ⟨_, inner, ho, hr⟩ := h
  rcases ho.2 with ⟨rfl, _⟩ | ⟨g', cap, cur, rfl, hbg, hg, _⟩
  · cases he
  · cases he
    have := hg.symm.trans hb
    simp only [Option.some.injEq, Obj.cells.injEq] at this
    exact ht this.2.1.symm
theorem Bag.of_type {w0 W : World} {As : Fin 7 → Option Addr} {ns cs : Fin 7 → Nat} {Q : List (Int × Pc)} (h : Bag w0 W As ns cs Q) {g : Nat} {t : TypeId} {cells : Array Value} (hb : Blk W g t cells) (ht : t ≠ 58) (i : Fin 7) : (Value.slice (As i) (ns i) (cs i)).ownBlock ≠ some g := own_type (h.r i) hb ht
theorem Bag.lt {w0 W : World} {As : Fin 7 → Option Addr} {ns cs : Fin 7 → Nat} {Q : List (Int × Pc)} (h : Bag w0 W As ns cs Q) {g : Nat} (hg : W.heap.size ≤ g) (i : Fin 7) : (Value.slice (As i) (ns i) (cs i)).ownBlock ≠ some g := fun hk => by
  have := ((Kd.R_bound (h.r i)).1 _ hk).2.2.1; omega
set_option maxHeartbeats 2000000 in
theorem put_bag (w0 W : World) (As : Fin 7 → Option Addr) (ns cs : Fin 7 → Nat) (Q : List (Int × Pc)) (h : Bag w0 W As ns cs Q) (hB : Below w0.heap.size w0 W) (j : Int) (x : Pc) (hj : 1 ≤ j ∧ j ≤ 7) (hQ : Q.length ≤ 100000) :
    Calls Try.prog 39 #[.agg #[.slice (As 0) (ns 0) (cs 0), .slice (As 1) (ns 1) (cs 1), .slice (As 2) (ns 2) (cs 2), .slice (As 3) (ns 3) (cs 3), .slice (As 4) (ns 4) (cs 4), .slice (As 5) (ns 5) (cs 5), .slice (As 6) (ns 6) (cs 6)], .int .i64 j, .agg #[.int .i64 x.f0, .int .i64 x.f1]] W fun e w' => ∃ (As' : Fin 7 → Option Addr) (ns' cs' : Fin 7 → Nat), e = .returned (.agg #[.slice (As' 0) (ns' 0) (cs' 0), .slice (As' 1) (ns' 1) (cs' 1), .slice (As' 2) (ns' 2) (cs' 2), .slice (As' 3) (ns' 3) (cs' 3), .slice (As' 4) (ns' 4) (cs' 4), .slice (As' 5) (ns' 5) (cs' 5), .slice (As' 6) (ns' 6) (cs' 6)]) ∧ Bag w0 w' As' ns' cs' (Q ++ [(j, x)]) ∧ Below w0.heap.size w0 w' ∧ (∀ (g : Nat) (t : TypeId) (cells : Array Value), Blk W g t cells → (∀ i, (Value.slice (As i) (ns i) (cs i)).ownBlock ≠ some g) → Blk w' g t cells) := by
  have T : ∀ i, Kd.R k58 58 W w0.heap.size (fun k => some k = (Value.slice (As i) (ns i) (cs i)).ownBlock) (.slice (As i) (ns i) (cs i)) (selF Q i) := fun i => Kd.R_tight rfl (h.r i)
  have D : ∀ i j, i ≠ j → ∀ k, some k = (Value.slice (As i) (ns i) (cs i)).ownBlock → ¬ some k = (Value.slice (As j) (ns j) (cs j)).ownBlock := fun i j hij k h1 h2 => h.d i j hij k h1.symm h2.symm
  have hp := put_sel Q hQ j hj x.f0 x.f1
  refine (rickyardlaw26_put.calls _ (.slice (As 0) (ns 0) (cs 0)) (sel 1 Q) _ (.slice (As 1) (ns 1) (cs 1)) (sel 2 Q) _ (.slice (As 2) (ns 2) (cs 2)) (sel 3 Q) _ (.slice (As 3) (ns 3) (cs 3)) (sel 4 Q) _ (.slice (As 4) (ns 4) (cs 4)) (sel 5 Q) _ (.slice (As 5) (ns 5) (cs 5)) (sel 6 Q) _ (.slice (As 6) (ns 6) (cs 6)) (sel 7 Q) j x.f0 x.f1 _ _ _ _ _ _ _ w0 W hB (T 0) (D 0 1 (by decide)) (D 0 2 (by decide)) (D 0 3 (by decide)) (D 0 4 (by decide)) (D 0 5 (by decide)) (D 0 6 (by decide)) (T 1) (D 1 0 (by decide)) (D 1 2 (by decide)) (D 1 3 (by decide)) (D 1 4 (by decide)) (D 1 5 (by decide)) (D 1 6 (by decide)) (T 2) (D 2 0 (by decide)) (D 2 1 (by decide)) (D 2 3 (by decide)) (D 2 4 (by decide)) (D 2 5 (by decide)) (D 2 6 (by decide)) (T 3) (D 3 0 (by decide)) (D 3 1 (by decide)) (D 3 2 (by decide)) (D 3 4 (by decide)) (D 3 5 (by decide)) (D 3 6 (by decide)) (T 4) (D 4 0 (by decide)) (D 4 1 (by decide)) (D 4 2 (by decide)) (D 4 3 (by decide)) (D 4 5 (by decide)) (D 4 6 (by decide)) (T 5) (D 5 0 (by decide)) (D 5 1 (by decide)) (D 5 2 (by decide)) (D 5 3 (by decide)) (D 5 4 (by decide)) (D 5 6 (by decide)) (T 6) (D 6 0 (by decide)) (D 6 1 (by decide)) (D 6 2 (by decide)) (D 6 3 (by decide)) (D 6 4 (by decide)) (D 6 5 (by decide)) hp).mono ?_
  rintro e w' ⟨v0, v1, v2, v3, v4, v5, v6, rfl, r0, r1, r2, r3, r4, r5, r6, hb, hk⟩
  obtain ⟨A0, c0, e0, -, -⟩ := Kd.R_reads r0
  obtain ⟨A1, c1, e1, -, -⟩ := Kd.R_reads r1
  obtain ⟨A2, c2, e2, -, -⟩ := Kd.R_reads r2
  obtain ⟨A3, c3, e3, -, -⟩ := Kd.R_reads r3
  obtain ⟨A4, c4, e4, -, -⟩ := Kd.R_reads r4
  obtain ⟨A5, c5, e5, -, -⟩ := Kd.R_reads r5
  obtain ⟨A6, c6, e6, -, -⟩ := Kd.R_reads r6
  subst e0 e1 e2 e3 e4 e5 e6
  refine ⟨at7 A0 A1 A2 A3 A4 A5 A6, at7 _ _ _ _ _ _ _, at7 c0 c1 c2 c3 c4 c5 c6, rfl, ⟨all7 (Kd.R_mono r0 (fun _ _ => trivial)) (Kd.R_mono r1 (fun _ _ => trivial)) (Kd.R_mono r2 (fun _ _ => trivial)) (Kd.R_mono r3 (fun _ _ => trivial)) (Kd.R_mono r4 (fun _ _ => trivial)) (Kd.R_mono r5 (fun _ _ => trivial)) (Kd.R_mono r6 (fun _ _ => trivial)), ?_⟩, hb, fun g t cells hg ht => ?_⟩
  · refine all7 ?_ ?_ ?_ ?_ ?_ ?_ ?_
    · exact all7 (fun hne => absurd rfl hne) (fun _ k hk he => ((r0.1 k hk).2.1) he.symm) (fun _ k hk he => ((r0.1 k hk).2.2.1) he.symm) (fun _ k hk he => ((r0.1 k hk).2.2.2.1) he.symm) (fun _ k hk he => ((r0.1 k hk).2.2.2.2.1) he.symm) (fun _ k hk he => ((r0.1 k hk).2.2.2.2.2.1) he.symm) (fun _ k hk he => ((r0.1 k hk).2.2.2.2.2.2) he.symm)
    · exact all7 (fun _ k hk he => ((r1.1 k hk).2.1) he.symm) (fun hne => absurd rfl hne) (fun _ k hk he => ((r1.1 k hk).2.2.1) he.symm) (fun _ k hk he => ((r1.1 k hk).2.2.2.1) he.symm) (fun _ k hk he => ((r1.1 k hk).2.2.2.2.1) he.symm) (fun _ k hk he => ((r1.1 k hk).2.2.2.2.2.1) he.symm) (fun _ k hk he => ((r1.1 k hk).2.2.2.2.2.2) he.symm)
    · exact all7 (fun _ k hk he => ((r2.1 k hk).2.1) he.symm) (fun _ k hk he => ((r2.1 k hk).2.2.1) he.symm) (fun hne => absurd rfl hne) (fun _ k hk he => ((r2.1 k hk).2.2.2.1) he.symm) (fun _ k hk he => ((r2.1 k hk).2.2.2.2.1) he.symm) (fun _ k hk he => ((r2.1 k hk).2.2.2.2.2.1) he.symm) (fun _ k hk he => ((r2.1 k hk).2.2.2.2.2.2) he.symm)
    · exact all7 (fun _ k hk he => ((r3.1 k hk).2.1) he.symm) (fun _ k hk he => ((r3.1 k hk).2.2.1) he.symm) (fun _ k hk he => ((r3.1 k hk).2.2.2.1) he.symm) (fun hne => absurd rfl hne) (fun _ k hk he => ((r3.1 k hk).2.2.2.2.1) he.symm) (fun _ k hk he => ((r3.1 k hk).2.2.2.2.2.1) he.symm) (fun _ k hk he => ((r3.1 k hk).2.2.2.2.2.2) he.symm)
    · exact all7 (fun _ k hk he => ((r4.1 k hk).2.1) he.symm) (fun _ k hk he => ((r4.1 k hk).2.2.1) he.symm) (fun _ k hk he => ((r4.1 k hk).2.2.2.1) he.symm) (fun _ k hk he => ((r4.1 k hk).2.2.2.2.1) he.symm) (fun hne => absurd rfl hne) (fun _ k hk he => ((r4.1 k hk).2.2.2.2.2.1) he.symm) (fun _ k hk he => ((r4.1 k hk).2.2.2.2.2.2) he.symm)
    · exact all7 (fun _ k hk he => ((r5.1 k hk).2.1) he.symm) (fun _ k hk he => ((r5.1 k hk).2.2.1) he.symm) (fun _ k hk he => ((r5.1 k hk).2.2.2.1) he.symm) (fun _ k hk he => ((r5.1 k hk).2.2.2.2.1) he.symm) (fun _ k hk he => ((r5.1 k hk).2.2.2.2.2.1) he.symm) (fun hne => absurd rfl hne) (fun _ k hk he => ((r5.1 k hk).2.2.2.2.2.2) he.symm)
    · exact all7 (fun _ k hk he => ((r6.1 k hk).2.1) he.symm) (fun _ k hk he => ((r6.1 k hk).2.2.1) he.symm) (fun _ k hk he => ((r6.1 k hk).2.2.2.1) he.symm) (fun _ k hk he => ((r6.1 k hk).2.2.2.2.1) he.symm) (fun _ k hk he => ((r6.1 k hk).2.2.2.2.2.1) he.symm) (fun _ k hk he => ((r6.1 k hk).2.2.2.2.2.2) he.symm) (fun hne => absurd rfl hne)
  · have hl : g < W.heap.size := hg.lt
    refine (hk.2 g hl ?_).trans hg
    rintro (hh | hh | hh | hh | hh | hh | hh)
    all_goals first | exact ht 0 hh.symm | exact ht 1 hh.symm | exact ht 2 hh.symm | exact ht 3 hh.symm | exact ht 4 hh.symm | exact ht 5 hh.symm | exact ht 6 hh.symm
theorem whole_bag (w0 W : World) (As : Fin 7 → Option Addr) (ns cs : Fin 7 → Nat) (Q : List (Int × Pc)) (h : Bag w0 W As ns cs Q) (hl : (flatS Q).length ≤ 100000) (a : Int) :
    Calls Try.prog 34 #[.agg #[.slice (As 0) (ns 0) (cs 0), .slice (As 1) (ns 1) (cs 1), .slice (As 2) (ns 2) (cs 2), .slice (As 3) (ns 3) (cs 3), .slice (As 4) (ns 4) (cs 4), .slice (As 5) (ns 5) (cs 5), .slice (As 6) (ns 6) (cs 6)], .int .i64 a] W fun e w' => e = .returned (.bool (wh (sortP (flatS Q)) 0 a)) ∧ Below W.heap.size W w' := by
  have hn := fun i => (h.len i).1
  rw [hn 0, hn 1, hn 2, hn 3, hn 4, hn 5, hn 6]
  exact whole_of h.seven hl a
set_option maxHeartbeats 2000000 in
theorem made_bag (A : Option Addr) (c : Nat) (nl : List Int) (w : World) (hr : Kd.C (Kd.int .u8) w A nl.length nl) (hc : nl.length ≤ c) (hw : ∀ x ∈ nl, (Lit.int .u8 x).wf = true) (hy : nl.length * 1 ≤ 140737488351232) :
    Calls Try.prog 38 #[.slice A nl.length c] w fun e w' => ∃ (As : Fin 7 → Option Addr) (ns cs : Fin 7 → Nat), e = .returned (.tuple #[.agg #[.slice (As 0) (ns 0) (cs 0), .slice (As 1) (ns 1) (cs 1), .slice (As 2) (ns 2) (cs 2), .slice (As 3) (ns 3) (cs 3), .slice (As 4) (ns 4) (cs 4), .slice (As 5) (ns 5) (cs 5), .slice (As 6) (ns 6) (cs 6)], .int .i64 (endP (pcs nl) 0)]) ∧ Bag w w' As ns cs (pcs nl) ∧ Below w.heap.size w w' := by
  obtain ⟨k, hk⟩ := (made_ev nl (rd_u8 hw) (by omega)).rounds
  refine (rickyardlaw26_Made.calls k A c nl _ _ _ _ _ _ _ _ w hr hc hk).mono ?_
  rintro e w' ⟨v0, v1, v2, v3, v4, v5, v6, rfl, r0, r1, r2, r3, r4, r5, r6, hB⟩
  obtain ⟨A0, c0, e0, -, -⟩ := Kd.R_reads r0
  obtain ⟨A1, c1, e1, -, -⟩ := Kd.R_reads r1
  obtain ⟨A2, c2, e2, -, -⟩ := Kd.R_reads r2
  obtain ⟨A3, c3, e3, -, -⟩ := Kd.R_reads r3
  obtain ⟨A4, c4, e4, -, -⟩ := Kd.R_reads r4
  obtain ⟨A5, c5, e5, -, -⟩ := Kd.R_reads r5
  obtain ⟨A6, c6, e6, -, -⟩ := Kd.R_reads r6
  subst e0 e1 e2 e3 e4 e5 e6
  refine ⟨at7 A0 A1 A2 A3 A4 A5 A6, at7 _ _ _ _ _ _ _, at7 c0 c1 c2 c3 c4 c5 c6, rfl, ⟨all7 (Kd.R_mono r0 (fun _ _ => trivial)) (Kd.R_mono r1 (fun _ _ => trivial)) (Kd.R_mono r2 (fun _ _ => trivial)) (Kd.R_mono r3 (fun _ _ => trivial)) (Kd.R_mono r4 (fun _ _ => trivial)) (Kd.R_mono r5 (fun _ _ => trivial)) (Kd.R_mono r6 (fun _ _ => trivial)), ?_⟩, hB⟩
  refine all7 ?_ ?_ ?_ ?_ ?_ ?_ ?_
  · exact all7 (fun hne => absurd rfl hne) (fun _ k hk he => ((r0.1 k hk).1) he.symm) (fun _ k hk he => ((r0.1 k hk).2.1) he.symm) (fun _ k hk he => ((r0.1 k hk).2.2.1) he.symm) (fun _ k hk he => ((r0.1 k hk).2.2.2.1) he.symm) (fun _ k hk he => ((r0.1 k hk).2.2.2.2.1) he.symm) (fun _ k hk he => ((r0.1 k hk).2.2.2.2.2) he.symm)
  · exact all7 (fun _ k hk he => ((r1.1 k hk).1) he.symm) (fun hne => absurd rfl hne) (fun _ k hk he => ((r1.1 k hk).2.1) he.symm) (fun _ k hk he => ((r1.1 k hk).2.2.1) he.symm) (fun _ k hk he => ((r1.1 k hk).2.2.2.1) he.symm) (fun _ k hk he => ((r1.1 k hk).2.2.2.2.1) he.symm) (fun _ k hk he => ((r1.1 k hk).2.2.2.2.2) he.symm)
  · exact all7 (fun _ k hk he => ((r2.1 k hk).1) he.symm) (fun _ k hk he => ((r2.1 k hk).2.1) he.symm) (fun hne => absurd rfl hne) (fun _ k hk he => ((r2.1 k hk).2.2.1) he.symm) (fun _ k hk he => ((r2.1 k hk).2.2.2.1) he.symm) (fun _ k hk he => ((r2.1 k hk).2.2.2.2.1) he.symm) (fun _ k hk he => ((r2.1 k hk).2.2.2.2.2) he.symm)
  · exact all7 (fun _ k hk he => ((r3.1 k hk).1) he.symm) (fun _ k hk he => ((r3.1 k hk).2.1) he.symm) (fun _ k hk he => ((r3.1 k hk).2.2.1) he.symm) (fun hne => absurd rfl hne) (fun _ k hk he => ((r3.1 k hk).2.2.2.1) he.symm) (fun _ k hk he => ((r3.1 k hk).2.2.2.2.1) he.symm) (fun _ k hk he => ((r3.1 k hk).2.2.2.2.2) he.symm)
  · exact all7 (fun _ k hk he => ((r4.1 k hk).1) he.symm) (fun _ k hk he => ((r4.1 k hk).2.1) he.symm) (fun _ k hk he => ((r4.1 k hk).2.2.1) he.symm) (fun _ k hk he => ((r4.1 k hk).2.2.2.1) he.symm) (fun hne => absurd rfl hne) (fun _ k hk he => ((r4.1 k hk).2.2.2.2.1) he.symm) (fun _ k hk he => ((r4.1 k hk).2.2.2.2.2) he.symm)
  · exact all7 (fun _ k hk he => ((r5.1 k hk).1) he.symm) (fun _ k hk he => ((r5.1 k hk).2.1) he.symm) (fun _ k hk he => ((r5.1 k hk).2.2.1) he.symm) (fun _ k hk he => ((r5.1 k hk).2.2.2.1) he.symm) (fun _ k hk he => ((r5.1 k hk).2.2.2.2.1) he.symm) (fun hne => absurd rfl hne) (fun _ k hk he => ((r5.1 k hk).2.2.2.2.2) he.symm)
  · exact all7 (fun _ k hk he => ((r6.1 k hk).1) he.symm) (fun _ k hk he => ((r6.1 k hk).2.1) he.symm) (fun _ k hk he => ((r6.1 k hk).2.2.1) he.symm) (fun _ k hk he => ((r6.1 k hk).2.2.2.1) he.symm) (fun _ k hk he => ((r6.1 k hk).2.2.2.2.1) he.symm) (fun _ k hk he => ((r6.1 k hk).2.2.2.2.2) he.symm) (fun hne => absurd rfl hne)
end Go.Proofs.Ythbknmblehecaaa
