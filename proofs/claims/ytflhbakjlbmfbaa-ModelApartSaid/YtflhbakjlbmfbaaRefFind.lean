/- The document's model: the contract of Find. No statement is proved here. -/
import Derived.Test.YtflhbakjlbmfbaaRefAlloc
import Derived.Test.YtflhbakjlbmfbaaPrx38
namespace Go.Proofs.Ytflhbakjlbmfbaa
set_option linter.unusedVariables false
set_option linter.unusedSimpArgs false
open Go.RowKit Go.Proofs.YtflhbakjlbmfbaaW.PrintWords Go.Proofs.YtflhbakjlbmfbaaW.PrintLast Go.Proofs.YtflhbakjlbmfbaaW.PrintMore Pr Go.Proofs.Ytflhbakjlbmfbaa.Pure

structure RC (w : World) (m : Int) (A : Option Addr) (n c : Nat) (W : World) : Prop where
  b2 : W.heap[w.heap.size]? = some (.cells #[.int .i64 m, .slice A n c] 41 (0, 0))
  b4 : W.heap[w.heap.size + 1]? = some (.cells #[.int .i64 0, .int .i64 0, .int .i64 0] 48 (0, 0))
  bl : Below w.heap.size w W
theorem RC.new (w : World) (m : Int) (A : Option Addr) (n c : Nat) : RC w m A n c ((w.alloc (.cells #[.int .i64 m, .slice A n c] 41)).alloc (.cells #[.int .i64 0, .int .i64 0, .int .i64 0] 48)) where
  b2 := blk_alloc (blk_new w _) _
  b4 := by have h := blk_new (w.alloc (.cells #[.int .i64 m, .slice A n c] 41)) (.cells #[.int .i64 0, .int .i64 0, .int .i64 0] 48); simpa using h
  bl := below_alloc (below_alloc (Below.refl _ _) _) _
theorem RC.below {w : World} {m : Int} {A : Option Addr} {n c : Nat} {W W' : World} (h : RC w m A n c W) (hd : Below W.heap.size W W') : RC w m A n c W' :=
  ⟨blk_below h.b2 hd, blk_below h.b4 hd, below_step h.bl hd⟩
theorem RC.p0 {w : World} {m : Int} {A : Option Addr} {n c : Nat} {W : World} (h : RC w m A n c W) (x : Value) : (W.setCell ⟨w.heap.size + 1, 0, none⟩ x).cell? ⟨w.heap.size + 1, 0, none⟩ = some x := by rw [blk_cell (blk_set h.b4 0 x) 0]; rfl
theorem RC.p1 {w : World} {m : Int} {A : Option Addr} {n c : Nat} {W : World} (h : RC w m A n c W) (x y : Value) : ((W.setCell ⟨w.heap.size + 1, 0, none⟩ x).setCell ⟨w.heap.size + 1, 1, none⟩ y).cell? ⟨w.heap.size + 1, 1, none⟩ = some y := by rw [blk_cell (blk_set (blk_set h.b4 0 x) 1 y) 1]; rfl
theorem RC.p2 {w : World} {m : Int} {A : Option Addr} {n c : Nat} {W : World} (h : RC w m A n c W) (x y z : Value) : (((W.setCell ⟨w.heap.size + 1, 0, none⟩ x).setCell ⟨w.heap.size + 1, 1, none⟩ y).setCell ⟨w.heap.size + 1, 2, none⟩ z).cell? ⟨w.heap.size + 1, 2, none⟩ = some z := by rw [blk_cell (blk_set (blk_set (blk_set h.b4 0 x) 1 y) 2 z) 2]; rfl
def RFindPost (l : List Lv) (t : Int) (w : World) (e : Ending) (w' : World) : Prop := e = .returned (if t < 0 then .tuple #[.agg #[.int .i64 0, .int .i64 0, .int .i64 0], .bool false] else .tuple #[.agg #[.int .i64 (rd_T48 l t).f0, .int .i64 (rd_T48 l t).f1, .int .i64 (rd_T48 l t).f2], .bool true]) ∧ Below w.heap.size w w'
set_option maxRecDepth 100000 in
set_option maxHeartbeats 4000000 in
theorem rfind13_any (k : Nat) (m : Int) (A : Option Addr) (c : Nat) (l : List Lv) (a t : Int) (w : World) (hr : Kd.C k48 w A l.length l) (hc : l.length ≤ c) (h : rickyardref13_find.f k l a = some t) (ht : t < l.length) :
    Calls Try.prog 64 #[.agg #[.int .i64 m, .slice A l.length c], .int .i64 a] w (RFindPost l t w) := by
  have hu := Try.underlying48
  have hu2 := Try.underlying41
  have HR := Sh.mk hr
  have HH := Sh.mk h
  have HA0 := RC.new w m A l.length c
  have hc2 : ((w.alloc (.cells #[.int .i64 m, .slice A l.length c] 41)).alloc (.cells #[.int .i64 0, .int .i64 0, .int .i64 0] 48)).cell? ⟨w.heap.size, 1, none⟩ = some (.slice A l.length c) := (blk_cell HA0.b2 1).trans rfl
  have HF := Sh.mk (rickyardref13_find.calls k A c l a t _ (Kd.C_below hr HA0.bl) hc h)
  clear hr h
  by_cases d : t < 0
  · have bd : decide (t < 0) = true := decide_eq_true d
    go_enter Try.func64, Try.ntmps64
    go_wp2_with fail
    (with_reducible refine HF.out.mono ?_); rintro e w2 ⟨rfl, hd⟩
    have HA := HA0.below hd.below
    clear hd hc2
    have hc40 : w2.cell? ⟨w.heap.size + 1, 0, none⟩ = some (.int .i64 0) := (blk_cell HA.b4 0).trans rfl
    have hc41 : w2.cell? ⟨w.heap.size + 1, 1, none⟩ = some (.int .i64 0) := (blk_cell HA.b4 1).trans rfl
    have hc42 : w2.cell? ⟨w.heap.size + 1, 2, none⟩ = some (.int .i64 0) := (blk_cell HA.b4 2).trans rfl
    have hf40 := blk_frozen HA.b4 0
    have hf41 := blk_frozen HA.b4 1
    have hf42 := blk_frozen HA.b4 2
    go_wp2
    refine bodyPost_ret (v := .tuple #[.agg #[.int .i64 0, .int .i64 0, .int .i64 0], .bool false]) (by simp [HA.p0, HA.p1, HA.p2, results, Try.results64, go_sem]) rfl ?_
    unfold RFindPost
    rw [if_pos d]
    exact ⟨rfl, below_set (below_set (below_set HA.bl (by omega)) (by omega)) (by omega)⟩
  · obtain ⟨j, rfl⟩ : ∃ j : Nat, t = j := ⟨t.toNat, by omega⟩
    have bd : decide ((j : Int) < 0) = false := decide_eq_false d
    obtain ⟨ad, rfl, hx0, hx1, hx2⟩ := at_T48 (Kd.C_below HR.out HA0.bl) (j : Int) (by omega) ht
    obtain ⟨x, hx⟩ : ∃ x, x = rd_T48 l (j : Int) := ⟨_, rfl⟩
    rw [← hx] at hx0 hx1 hx2
    rw [Int.toNat_natCast] at hx0 hx1 hx2
    have HX := Sh.mk hx
    have HC := Sh.mk (And.intro hx0 (And.intro hx1 hx2))
    clear hx hx0 hx1 hx2
    go_enter Try.func64, Try.ntmps64
    go_wp2_with fail
    (with_reducible refine HF.out.mono ?_); rintro e w2 ⟨rfl, hd⟩
    have hd' := hd.below
    have HA := HA0.below hd'
    have hx0 := (hd'.cell (World.block_lt_of_cell? _ _ HC.out.1)).trans HC.out.1
    have hx1 := (hd'.cell (World.block_lt_of_cell? _ _ HC.out.2.1)).trans HC.out.2.1
    have hx2 := (hd'.cell (World.block_lt_of_cell? _ _ HC.out.2.2)).trans HC.out.2.2
    clear hd hd' hc2
    have hc2 : w2.cell? ⟨w.heap.size, 1, none⟩ = some (.slice (some ad) l.length c) := (blk_cell HA.b2 1).trans rfl
    have hc40 : w2.cell? ⟨w.heap.size + 1, 0, none⟩ = some (.int .i64 0) := (blk_cell HA.b4 0).trans rfl
    have hc41 : w2.cell? ⟨w.heap.size + 1, 1, none⟩ = some (.int .i64 0) := (blk_cell HA.b4 1).trans rfl
    have hc42 : w2.cell? ⟨w.heap.size + 1, 2, none⟩ = some (.int .i64 0) := (blk_cell HA.b4 2).trans rfl
    have hf40 := blk_frozen HA.b4 0
    have hf41 := blk_frozen HA.b4 1
    have hf42 := blk_frozen HA.b4 2
    have hjl : j < l.length := by omega
    go_wp2
    refine bodyPost_ret (v := .tuple #[.agg #[.int .i64 x.f0, .int .i64 x.f1, .int .i64 x.f2], .bool true]) (by simp [HA.p0, HA.p1, HA.p2, results, Try.results64, go_sem]) rfl ?_
    unfold RFindPost
    rw [if_neg (by omega), ← HX.out]
    exact ⟨rfl, below_set (below_set (below_set HA.bl (by omega)) (by omega)) (by omega)⟩
end Go.Proofs.Ytflhbakjlbmfbaa
