/- model.after, and the document's accept: contracts that read. No statement is proved here. -/
import Derived.Test.YtpddppipjlagfaaModelLaw1
import Derived.Test.YtpddppipjlagfaaLinDfs
import Derived.Test.YtpddppipjlagfaaBase
import Derived.Deep.RegionHeld3
namespace Go.Proofs.Ytpddppipjlagfaa
set_option linter.unusedVariables false
set_option linter.unusedSimpArgs false
open Go.RowKit Go.Proofs.YtpddppipjlagfaaW.PrintWords Go.Proofs.YtpddppipjlagfaaW.PrintLast Go.Proofs.YtpddppipjlagfaaW.PrintMore Pr Go.Proofs.Ytpddppipjlagfaa.Pure

/-- The parameters' boxes, and a result's cells. -/
structure AX (w : World) (m : Int) (A : Option Addr) (n c : Nat) (d : De) (W : World) : Prop where
  b2 : W.heap[w.heap.size]? = some (.cells #[.int .i64 m, .slice A n c] 43 (0, 0))
  b3 : W.heap[w.heap.size + 1]? = some (.cells #[.int .i64 d.f0, .int .i64 d.f1, .int .i64 d.f2, .int .i64 d.f3] 38 (0, 0))
  b4 : W.heap[w.heap.size + 2]? = some (.cells #[.int .i64 0, .slice none 0 0] 43 (0, 0))
  bl : Below w.heap.size w W
section
variable {w : World} {m : Int} {A : Option Addr} {n c : Nat} {d : De} {W W' : World}
theorem AX.new (w : World) (m : Int) (A : Option Addr) (n c : Nat) (d : De) : AX w m A n c d (((w.alloc (.cells #[.int .i64 m, .slice A n c] 43)).alloc (.cells #[.int .i64 d.f0, .int .i64 d.f1, .int .i64 d.f2, .int .i64 d.f3] 38)).alloc (.cells #[.int .i64 0, .slice none 0 0] 43)) where
  b2 := blk_alloc (blk_alloc (blk_new w _) _) _
  b3 := blk_alloc (by have h := blk_new (w.alloc (.cells #[.int .i64 m, .slice A n c] 43)) (.cells #[.int .i64 d.f0, .int .i64 d.f1, .int .i64 d.f2, .int .i64 d.f3] 38); simpa using h) _
  b4 := by have h := blk_new ((w.alloc (.cells #[.int .i64 m, .slice A n c] 43)).alloc (.cells #[.int .i64 d.f0, .int .i64 d.f1, .int .i64 d.f2, .int .i64 d.f3] 38)) (.cells #[.int .i64 0, .slice none 0 0] 43); simpa using h
  bl := below_alloc (below_alloc (below_alloc (Below.refl _ _) _) _) _
theorem AX.below (x : AX w m A n c d W) (hd : Below W.heap.size W W') : AX w m A n c d W' :=
  ⟨blk_below x.b2 hd, blk_below x.b3 hd, blk_below x.b4 hd, below_step x.bl hd⟩
theorem AX.c20 (x : AX w m A n c d W) : W.cell? ⟨w.heap.size, 0, none⟩ = some (.int .i64 m) := (blk_cell x.b2 0).trans rfl
theorem AX.c21 (x : AX w m A n c d W) : W.cell? ⟨w.heap.size, 1, none⟩ = some (.slice A n c) := (blk_cell x.b2 1).trans rfl
theorem AX.c30 (x : AX w m A n c d W) : W.cell? ⟨w.heap.size + 1, 0, none⟩ = some (.int .i64 d.f0) := (blk_cell x.b3 0).trans rfl
theorem AX.c31 (x : AX w m A n c d W) : W.cell? ⟨w.heap.size + 1, 1, none⟩ = some (.int .i64 d.f1) := (blk_cell x.b3 1).trans rfl
theorem AX.c32 (x : AX w m A n c d W) : W.cell? ⟨w.heap.size + 1, 2, none⟩ = some (.int .i64 d.f2) := (blk_cell x.b3 2).trans rfl
theorem AX.c33 (x : AX w m A n c d W) : W.cell? ⟨w.heap.size + 1, 3, none⟩ = some (.int .i64 d.f3) := (blk_cell x.b3 3).trans rfl
theorem AX.c40 (x : AX w m A n c d W) : W.cell? ⟨w.heap.size + 2, 0, none⟩ = some (.int .i64 0) := (blk_cell x.b4 0).trans rfl
theorem AX.c41 (x : AX w m A n c d W) : W.cell? ⟨w.heap.size + 2, 1, none⟩ = some (.slice none 0 0) := (blk_cell x.b4 1).trans rfl
theorem AX.f40 (x : AX w m A n c d W) : W.frozen? ⟨w.heap.size + 2, 0, none⟩ = false := blk_frozen x.b4 0
theorem AX.f41 (x : AX w m A n c d W) : W.frozen? ⟨w.heap.size + 2, 1, none⟩ = false := blk_frozen x.b4 1
theorem AX.p0 (r : AX w m A n c d W) (x : Value) : (W.setCell ⟨w.heap.size + 2, 0, none⟩ x).cell? ⟨w.heap.size + 2, 0, none⟩ = some x := by rw [blk_cell (blk_set r.b4 0 x) 0]; rfl
theorem AX.p1 (r : AX w m A n c d W) (x y : Value) : ((W.setCell ⟨w.heap.size + 2, 0, none⟩ x).setCell ⟨w.heap.size + 2, 1, none⟩ y).cell? ⟨w.heap.size + 2, 1, none⟩ = some y := by rw [blk_cell (blk_set (blk_set r.b4 0 x) 1 y) 1]; rfl
end
def AfterPost (m : Int) (l : List Lv) (d : De) (ok : Nat → Prop) (w : World) (e : Ending) (w' : World) : Prop := ∃ (A' : Option Addr) (c' : Nat), e = .returned (.tuple #[.agg #[.int .i64 (accR m l d).1, .slice A' (accR m l d).2.1.length c'], .bool (accR m l d).2.2]) ∧ (accR m l d).2.1.length ≤ c' ∧ Kd.F k59 w' (fun k => ok k ∨ w.heap.size ≤ k) A' (accR m l d).2.1.length (accR m l d).2.1 ∧ Below w.heap.size w w'
/-- The same list is handed back. -/
theorem after_same {m : Int} {A : Option Addr} {c : Nat} {l : List Lv} {d : De} {ok : Nat → Prop} {w W : World} {b : Bool} (hF : Kd.F k59 w ok A l.length l) (hc : l.length ≤ c) (h : accR m l d = (m, l, b)) (hB : Below w.heap.size w W) (x y : Value) :
    AfterPost m l d ok w (.returned (.tuple #[.agg #[.int .i64 m, .slice A l.length c], .bool b])) ((W.setCell ⟨w.heap.size + 2, 0, none⟩ x).setCell ⟨w.heap.size + 2, 1, none⟩ y) := by
  unfold AfterPost
  rw [h]
  exact ⟨A, c, rfl, hc, Kd.F_mono (Kd.F_far (p := ⟨w.heap.size + 2, 1, none⟩) (Kd.F_far (p := ⟨w.heap.size + 2, 0, none⟩) (Kd.F_old hF hB) (fun k hk => by have := hk.2; show k ≠ w.heap.size + 2; omega) _) (fun k hk => by have := hk.2; show k ≠ w.heap.size + 2; omega) _) (fun k hk => .inl hk.1), below_set (below_set hB (by omega)) (by omega)⟩
/-- A new list is handed back. -/
theorem after_new {m r1 : Int} {l r2 : List Lv} {d : De} {ok : Nat → Prop} {w W W2 : World} {b : Bool} {A2 : Option Addr} {c2 : Nat} (h : accR m l d = (r1, r2, b)) (hB : Below w.heap.size w W2) (hW : w.heap.size + 2 < W.heap.size) (hr : Kd.R k59 59 W2 W.heap.size (fun _ => True) (.slice A2 r2.length c2) r2) (x y : Value) :
    AfterPost m l d ok w (.returned (.tuple #[.agg #[.int .i64 r1, .slice A2 r2.length c2], .bool b])) ((W2.setCell ⟨w.heap.size + 2, 0, none⟩ x).setCell ⟨w.heap.size + 2, 1, none⟩ y) := by
  unfold AfterPost
  rw [h]
  have h1 := Kd.R_bound hr
  have h2 : Kd.F k59 W2 (fun k => W.heap.size ≤ k) A2 r2.length r2 := fun W' hW' => (Kd.R_reads' (Kd.R_step (w1 := W') h1 (fun k hk hlt => hW' k hk.2.1 hlt))).2.2
  exact ⟨A2, c2, rfl, (Kd.R_reads' hr).2.1, Kd.F_mono (Kd.F_far (p := ⟨w.heap.size + 2, 1, none⟩) (Kd.F_far (p := ⟨w.heap.size + 2, 0, none⟩) h2 (fun k hk => by show k ≠ w.heap.size + 2; omega) _) (fun k hk => by show k ≠ w.heap.size + 2; omega) _) (fun k hk => .inr (by omega)), below_set (below_set hB (by omega)) (by omega)⟩
set_option maxRecDepth 100000 in
set_option maxHeartbeats 4000000 in
theorem after_10 (m : Int) (A : Option Addr) (c : Nat) (l : List Lv) (d : De) (ok : Nat → Prop) (w : World) (hm : mOk m) (hrt : rtL m l) (hl : l.length ≤ 1000) (hF : Kd.F k59 w ok A l.length l) (hc : l.length ≤ c) (z0 : d.f0 = 1) (y0 : d.f3 = 0) :
    Calls Try.prog 30 #[.agg #[.int .i64 m, .slice A l.length c], .agg #[.int .i64 d.f0, .int .i64 d.f1, .int .i64 d.f2, .int .i64 d.f3]] w (AfterPost m l d ok w) := by
  have hu := Try.underlying59
  have hu2 := Try.underlying43
  have hu3 := Try.underlying38
  have HA0 := AX.new w m A l.length c d
  have HF := Sh.mk hF
  obtain ⟨cc, has, hcr⟩ : ∃ cc has, clsR d.f1 = (cc, has) := ⟨_, _, rfl⟩
  have HQ : ∀ W, Sh (Calls Try.prog 42 #[.int .i64 d.f1] W fun e w' => e = .returned (.tuple #[.int .i64 cc, .bool has]) ∧ Below W.heap.size W w') := fun W => ⟨by obtain ⟨k, hk⟩ := (class_ev d.f1).1.rounds; have h := size_Class.calls k d.f1 (clsR d.f1).1 (clsR d.f1).2 W hk; rw [hcr] at h; exact h⟩
  obtain ⟨y0_, y1_, y2_, live, hfr⟩ : ∃ a b c e, findR l d.f2 = (a, b, c, e) := ⟨_, _, _, _, rfl⟩
  have HQ2 : ∀ W, Below w.heap.size w W → Sh (Calls Try.prog 43 #[.agg #[.int .i64 m, .slice A l.length c], .int .i64 d.f2] W fun e w' => e = .returned (.tuple #[.agg #[.int .i64 y0_, .int .i64 y1_, .int .i64 y2_], .bool live]) ∧ Below W.heap.size W w') := fun W hW => ⟨model_Find.calls m A c l d.f2 y0_ y1_ y2_ live W (Kd.F_now (Kd.F_below hF hW)) hc (by rw [find_is hrt hl, hfr])⟩
  have HE : Sh (accR m l d = allocR m l d.f1 d.f2) := ⟨by unfold accR; rw [if_pos ⟨z0, y0⟩]⟩
  obtain ⟨r1, r2, r3, har⟩ : ∃ a b c, allocR m l d.f1 d.f2 = (a, b, c) := ⟨_, _, _, rfl⟩
  have HE := Sh.mk (HE.out.trans har)
  have HQ3 : ∀ W, Below w.heap.size w W → Sh (Calls Try.prog 44 #[.agg #[.int .i64 m, .slice A l.length c], .int .i64 d.f1, .int .i64 d.f2] W fun e w' => ∃ v1_ : Value, e = .returned (.tuple #[.agg #[.int .i64 r1, v1_], .bool r3]) ∧ Kd.R k59 59 w' W.heap.size (fun _ => True) v1_ r2 ∧ Below W.heap.size W w') := fun W hW => ⟨by obtain ⟨k, hk⟩ := (alloc_ev hm hrt hl d.f1 d.f2).rounds; exact model_Alloc.calls k m A c l d.f1 d.f2 r1 r2 r3 W (Kd.F_now (Kd.F_below hF hW)) hc (by rw [hk, har])⟩
  clear har
  have bb0 : (d.f0 == 1) = true := by simpa using z0
  have bb1 : (d.f0 == 2) = false := by simp [z0]
  have bb2 : (d.f3 == 0) = true := by simpa using y0
  clear hcr hF hm hrt hfr z0 y0
  have q20 := HA0.c20; have q21 := HA0.c21; have q30 := HA0.c30; have q31 := HA0.c31; have q32 := HA0.c32; have q33 := HA0.c33; have q40 := HA0.c40; have q41 := HA0.c41; have q4f := HA0.f40; have q4g := HA0.f41
  go_enter Try.func30, Try.ntmps30
  go_wp2_with fail
  (with_reducible refine (HQ _).out.mono ?_); rintro e w2 ⟨rfl, hd⟩; have HA1 := HA0.below hd; clear hd; clear q20 q21 q30 q31 q32 q33 q40 q41 q4f q4g; have q20 := HA1.c20; have q21 := HA1.c21; have q30 := HA1.c30; have q31 := HA1.c31; have q32 := HA1.c32; have q33 := HA1.c33; have q40 := HA1.c40; have q41 := HA1.c41; have q4f := HA1.f40; have q4g := HA1.f41; clear HA0
  go_wp2_with fail
  (with_reducible refine (HQ2 _ HA1.bl).out.mono ?_); rintro e w3 ⟨rfl, hd⟩; have HA2 := HA1.below hd; clear hd; clear q20 q21 q30 q31 q32 q33 q40 q41 q4f q4g; have HA3 := HA2.below (below_alloc (Below.refl _ _) (.cells #[.int .i64 y0_, .int .i64 y1_, .int .i64 y2_] 59)); have q20 := HA3.c20; have q21 := HA3.c21; have q30 := HA3.c30; have q31 := HA3.c31; have q32 := HA3.c32; have q33 := HA3.c33; have q40 := HA3.c40; have q41 := HA3.c41; have q4f := HA3.f40; have q4g := HA3.f41; clear HA1
  go_wp2_with fail
  have hlt := Sh.mk (blk_lt HA3.b4)
  (with_reducible refine (HQ3 _ HA3.bl).out.mono ?_); rintro e w4 ⟨v1, rfl, hv, hd⟩; have HA4 := HA3.below hd; clear hd; obtain ⟨A2, c2, e2⟩ := Kd.R_slice hv; subst e2; have HV := Sh.mk hv; clear hv; clear q20 q21 q30 q31 q32 q33 q40 q41 q4f q4g; have q20 := HA4.c20; have q21 := HA4.c21; have q30 := HA4.c30; have q31 := HA4.c31; have q32 := HA4.c32; have q33 := HA4.c33; have q40 := HA4.c40; have q41 := HA4.c41; have q4f := HA4.f40; have q4g := HA4.f41
  go_wp2
  refine bodyPost_ret (v := .tuple #[.agg #[.int .i64 r1, .slice A2 r2.length c2], .bool r3]) (by simp [HA4.p0, HA4.p1, results, Try.results30, go_sem]) rfl ?_
  exact after_new HE.out HA4.bl hlt.out HV.out _ _
set_option maxRecDepth 100000 in
set_option maxHeartbeats 4000000 in
theorem after_13 (m : Int) (A : Option Addr) (c : Nat) (l : List Lv) (d : De) (ok : Nat → Prop) (w : World) (hm : mOk m) (hrt : rtL m l) (hl : l.length ≤ 1000) (hF : Kd.F k59 w ok A l.length l) (hc : l.length ≤ c) (z0 : d.f0 = 1) (y0 : ¬ d.f3 = 0) (y1 : d.f3 = 3) :
    Calls Try.prog 30 #[.agg #[.int .i64 m, .slice A l.length c], .agg #[.int .i64 d.f0, .int .i64 d.f1, .int .i64 d.f2, .int .i64 d.f3]] w (AfterPost m l d ok w) := by
  have hu := Try.underlying59
  have hu2 := Try.underlying43
  have hu3 := Try.underlying38
  have HA0 := AX.new w m A l.length c d
  have HF := Sh.mk hF
  obtain ⟨cc, has, hcr⟩ : ∃ cc has, clsR d.f1 = (cc, has) := ⟨_, _, rfl⟩
  have HQ : ∀ W, Sh (Calls Try.prog 42 #[.int .i64 d.f1] W fun e w' => e = .returned (.tuple #[.int .i64 cc, .bool has]) ∧ Below W.heap.size W w') := fun W => ⟨by obtain ⟨k, hk⟩ := (class_ev d.f1).1.rounds; have h := size_Class.calls k d.f1 (clsR d.f1).1 (clsR d.f1).2 W hk; rw [hcr] at h; exact h⟩
  obtain ⟨y0_, y1_, y2_, live, hfr⟩ : ∃ a b c e, findR l d.f2 = (a, b, c, e) := ⟨_, _, _, _, rfl⟩
  have HQ2 : ∀ W, Below w.heap.size w W → Sh (Calls Try.prog 43 #[.agg #[.int .i64 m, .slice A l.length c], .int .i64 d.f2] W fun e w' => e = .returned (.tuple #[.agg #[.int .i64 y0_, .int .i64 y1_, .int .i64 y2_], .bool live]) ∧ Below W.heap.size W w') := fun W hW => ⟨model_Find.calls m A c l d.f2 y0_ y1_ y2_ live W (Kd.F_now (Kd.F_below hF hW)) hc (by rw [find_is hrt hl, hfr])⟩
  have HE : Sh (accR m l d = (m, l, has)) := ⟨by unfold accR; rw [if_neg (fun h => y0 h.2), if_pos ⟨z0, y1⟩, hcr]⟩
  have bb0 : (d.f0 == 1) = true := by simpa using z0
  have bb1 : (d.f0 == 2) = false := by simp [z0]
  have bb2 : (d.f3 == 0) = false := by simpa using y0
  have bb3 : (d.f3 == 3) = true := by simpa using y1
  clear hcr hF hm hrt hfr z0 y0 y1
  have q20 := HA0.c20; have q21 := HA0.c21; have q30 := HA0.c30; have q31 := HA0.c31; have q32 := HA0.c32; have q33 := HA0.c33; have q40 := HA0.c40; have q41 := HA0.c41; have q4f := HA0.f40; have q4g := HA0.f41
  go_enter Try.func30, Try.ntmps30
  go_wp2_with fail
  (with_reducible refine (HQ _).out.mono ?_); rintro e w2 ⟨rfl, hd⟩; have HA1 := HA0.below hd; clear hd; clear q20 q21 q30 q31 q32 q33 q40 q41 q4f q4g; have q20 := HA1.c20; have q21 := HA1.c21; have q30 := HA1.c30; have q31 := HA1.c31; have q32 := HA1.c32; have q33 := HA1.c33; have q40 := HA1.c40; have q41 := HA1.c41; have q4f := HA1.f40; have q4g := HA1.f41; clear HA0
  go_wp2_with fail
  (with_reducible refine (HQ2 _ HA1.bl).out.mono ?_); rintro e w3 ⟨rfl, hd⟩; have HA2 := HA1.below hd; clear hd; clear q20 q21 q30 q31 q32 q33 q40 q41 q4f q4g; have HA3 := HA2.below (below_alloc (Below.refl _ _) (.cells #[.int .i64 y0_, .int .i64 y1_, .int .i64 y2_] 59)); have q20 := HA3.c20; have q21 := HA3.c21; have q30 := HA3.c30; have q31 := HA3.c31; have q32 := HA3.c32; have q33 := HA3.c33; have q40 := HA3.c40; have q41 := HA3.c41; have q4f := HA3.f40; have q4g := HA3.f41; clear HA1
  go_wp2
  refine bodyPost_ret (v := .tuple #[.agg #[.int .i64 m, .slice A l.length c], .bool (has)]) (by simp [HA3.p0, HA3.p1, results, Try.results30, go_sem]) rfl ?_
  exact after_same HF.out hc HE.out HA3.bl _ _
set_option maxRecDepth 100000 in
set_option maxHeartbeats 4000000 in
theorem after_11 (m : Int) (A : Option Addr) (c : Nat) (l : List Lv) (d : De) (ok : Nat → Prop) (w : World) (hm : mOk m) (hrt : rtL m l) (hl : l.length ≤ 1000) (hF : Kd.F k59 w ok A l.length l) (hc : l.length ≤ c) (z0 : d.f0 = 1) (y0 : ¬ d.f3 = 0) (y1 : ¬ d.f3 = 3) (y2 : d.f3 = 1) :
    Calls Try.prog 30 #[.agg #[.int .i64 m, .slice A l.length c], .agg #[.int .i64 d.f0, .int .i64 d.f1, .int .i64 d.f2, .int .i64 d.f3]] w (AfterPost m l d ok w) := by
  have hu := Try.underlying59
  have hu2 := Try.underlying43
  have hu3 := Try.underlying38
  have HA0 := AX.new w m A l.length c d
  have HF := Sh.mk hF
  obtain ⟨cc, has, hcr⟩ : ∃ cc has, clsR d.f1 = (cc, has) := ⟨_, _, rfl⟩
  have HQ : ∀ W, Sh (Calls Try.prog 42 #[.int .i64 d.f1] W fun e w' => e = .returned (.tuple #[.int .i64 cc, .bool has]) ∧ Below W.heap.size W w') := fun W => ⟨by obtain ⟨k, hk⟩ := (class_ev d.f1).1.rounds; have h := size_Class.calls k d.f1 (clsR d.f1).1 (clsR d.f1).2 W hk; rw [hcr] at h; exact h⟩
  obtain ⟨y0_, y1_, y2_, live, hfr⟩ : ∃ a b c e, findR l d.f2 = (a, b, c, e) := ⟨_, _, _, _, rfl⟩
  have HQ2 : ∀ W, Below w.heap.size w W → Sh (Calls Try.prog 43 #[.agg #[.int .i64 m, .slice A l.length c], .int .i64 d.f2] W fun e w' => e = .returned (.tuple #[.agg #[.int .i64 y0_, .int .i64 y1_, .int .i64 y2_], .bool live]) ∧ Below W.heap.size W w') := fun W hW => ⟨model_Find.calls m A c l d.f2 y0_ y1_ y2_ live W (Kd.F_now (Kd.F_below hF hW)) hc (by rw [find_is hrt hl, hfr])⟩
  have HE : Sh (accR m l d = (m, l, !has)) := ⟨by unfold accR; rw [if_neg (fun h => y0 h.2), if_neg (fun h => y1 h.2), if_pos ⟨z0, y2⟩, hcr]⟩
  have bb0 : (d.f0 == 1) = true := by simpa using z0
  have bb1 : (d.f0 == 2) = false := by simp [z0]
  have bb2 : (d.f3 == 0) = false := by simpa using y0
  have bb3 : (d.f3 == 3) = false := by simpa using y1
  have bb4 : (d.f3 == 1) = true := by simpa using y2
  clear hcr hF hm hrt hfr z0 y0 y1 y2
  have q20 := HA0.c20; have q21 := HA0.c21; have q30 := HA0.c30; have q31 := HA0.c31; have q32 := HA0.c32; have q33 := HA0.c33; have q40 := HA0.c40; have q41 := HA0.c41; have q4f := HA0.f40; have q4g := HA0.f41
  go_enter Try.func30, Try.ntmps30
  go_wp2_with fail
  (with_reducible refine (HQ _).out.mono ?_); rintro e w2 ⟨rfl, hd⟩; have HA1 := HA0.below hd; clear hd; clear q20 q21 q30 q31 q32 q33 q40 q41 q4f q4g; have q20 := HA1.c20; have q21 := HA1.c21; have q30 := HA1.c30; have q31 := HA1.c31; have q32 := HA1.c32; have q33 := HA1.c33; have q40 := HA1.c40; have q41 := HA1.c41; have q4f := HA1.f40; have q4g := HA1.f41; clear HA0
  go_wp2_with fail
  (with_reducible refine (HQ2 _ HA1.bl).out.mono ?_); rintro e w3 ⟨rfl, hd⟩; have HA2 := HA1.below hd; clear hd; clear q20 q21 q30 q31 q32 q33 q40 q41 q4f q4g; have HA3 := HA2.below (below_alloc (Below.refl _ _) (.cells #[.int .i64 y0_, .int .i64 y1_, .int .i64 y2_] 59)); have q20 := HA3.c20; have q21 := HA3.c21; have q30 := HA3.c30; have q31 := HA3.c31; have q32 := HA3.c32; have q33 := HA3.c33; have q40 := HA3.c40; have q41 := HA3.c41; have q4f := HA3.f40; have q4g := HA3.f41; clear HA1
  go_wp2
  refine bodyPost_ret (v := .tuple #[.agg #[.int .i64 m, .slice A l.length c], .bool (!has)]) (by simp [HA3.p0, HA3.p1, results, Try.results30, go_sem]) rfl ?_
  exact after_same HF.out hc HE.out HA3.bl _ _
set_option maxRecDepth 100000 in
set_option maxHeartbeats 4000000 in
theorem after_1x (m : Int) (A : Option Addr) (c : Nat) (l : List Lv) (d : De) (ok : Nat → Prop) (w : World) (hm : mOk m) (hrt : rtL m l) (hl : l.length ≤ 1000) (hF : Kd.F k59 w ok A l.length l) (hc : l.length ≤ c) (z0 : d.f0 = 1) (y0 : ¬ d.f3 = 0) (y1 : ¬ d.f3 = 3) (y2 : ¬ d.f3 = 1) :
    Calls Try.prog 30 #[.agg #[.int .i64 m, .slice A l.length c], .agg #[.int .i64 d.f0, .int .i64 d.f1, .int .i64 d.f2, .int .i64 d.f3]] w (AfterPost m l d ok w) := by
  have hu := Try.underlying59
  have hu2 := Try.underlying43
  have hu3 := Try.underlying38
  have HA0 := AX.new w m A l.length c d
  have HF := Sh.mk hF
  obtain ⟨cc, has, hcr⟩ : ∃ cc has, clsR d.f1 = (cc, has) := ⟨_, _, rfl⟩
  have HQ : ∀ W, Sh (Calls Try.prog 42 #[.int .i64 d.f1] W fun e w' => e = .returned (.tuple #[.int .i64 cc, .bool has]) ∧ Below W.heap.size W w') := fun W => ⟨by obtain ⟨k, hk⟩ := (class_ev d.f1).1.rounds; have h := size_Class.calls k d.f1 (clsR d.f1).1 (clsR d.f1).2 W hk; rw [hcr] at h; exact h⟩
  obtain ⟨y0_, y1_, y2_, live, hfr⟩ : ∃ a b c e, findR l d.f2 = (a, b, c, e) := ⟨_, _, _, _, rfl⟩
  have HQ2 : ∀ W, Below w.heap.size w W → Sh (Calls Try.prog 43 #[.agg #[.int .i64 m, .slice A l.length c], .int .i64 d.f2] W fun e w' => e = .returned (.tuple #[.agg #[.int .i64 y0_, .int .i64 y1_, .int .i64 y2_], .bool live]) ∧ Below W.heap.size W w') := fun W hW => ⟨model_Find.calls m A c l d.f2 y0_ y1_ y2_ live W (Kd.F_now (Kd.F_below hF hW)) hc (by rw [find_is hrt hl, hfr])⟩
  have HE : Sh (accR m l d = (m, l, false)) := ⟨by unfold accR; rw [if_neg (fun h => y0 h.2), if_neg (fun h => y1 h.2), if_neg (fun h => y2 h.2), if_neg (by omega), if_neg (by omega)]⟩
  have bb0 : (d.f0 == 1) = true := by simpa using z0
  have bb1 : (d.f0 == 2) = false := by simp [z0]
  have bb2 : (d.f3 == 0) = false := by simpa using y0
  have bb3 : (d.f3 == 3) = false := by simpa using y1
  have bb4 : (d.f3 == 1) = false := by simpa using y2
  clear hcr hF hm hrt hfr z0 y0 y1 y2
  have q20 := HA0.c20; have q21 := HA0.c21; have q30 := HA0.c30; have q31 := HA0.c31; have q32 := HA0.c32; have q33 := HA0.c33; have q40 := HA0.c40; have q41 := HA0.c41; have q4f := HA0.f40; have q4g := HA0.f41
  go_enter Try.func30, Try.ntmps30
  go_wp2_with fail
  (with_reducible refine (HQ _).out.mono ?_); rintro e w2 ⟨rfl, hd⟩; have HA1 := HA0.below hd; clear hd; clear q20 q21 q30 q31 q32 q33 q40 q41 q4f q4g; have q20 := HA1.c20; have q21 := HA1.c21; have q30 := HA1.c30; have q31 := HA1.c31; have q32 := HA1.c32; have q33 := HA1.c33; have q40 := HA1.c40; have q41 := HA1.c41; have q4f := HA1.f40; have q4g := HA1.f41; clear HA0
  go_wp2_with fail
  (with_reducible refine (HQ2 _ HA1.bl).out.mono ?_); rintro e w3 ⟨rfl, hd⟩; have HA2 := HA1.below hd; clear hd; clear q20 q21 q30 q31 q32 q33 q40 q41 q4f q4g; have HA3 := HA2.below (below_alloc (Below.refl _ _) (.cells #[.int .i64 y0_, .int .i64 y1_, .int .i64 y2_] 59)); have q20 := HA3.c20; have q21 := HA3.c21; have q30 := HA3.c30; have q31 := HA3.c31; have q32 := HA3.c32; have q33 := HA3.c33; have q40 := HA3.c40; have q41 := HA3.c41; have q4f := HA3.f40; have q4g := HA3.f41; clear HA1
  go_wp2
  refine bodyPost_ret (v := .tuple #[.agg #[.int .i64 m, .slice A l.length c], .bool (false)]) (by simp [HA3.p0, HA3.p1, results, Try.results30, go_sem]) rfl ?_
  exact after_same HF.out hc HE.out HA3.bl _ _
set_option maxRecDepth 100000 in
set_option maxHeartbeats 4000000 in
theorem after_20 (m : Int) (A : Option Addr) (c : Nat) (l : List Lv) (d : De) (ok : Nat → Prop) (w : World) (hm : mOk m) (hrt : rtL m l) (hl : l.length ≤ 1000) (hF : Kd.F k59 w ok A l.length l) (hc : l.length ≤ c) (z0 : d.f0 = 2) (y0 : d.f3 = 0) :
    Calls Try.prog 30 #[.agg #[.int .i64 m, .slice A l.length c], .agg #[.int .i64 d.f0, .int .i64 d.f1, .int .i64 d.f2, .int .i64 d.f3]] w (AfterPost m l d ok w) := by
  have hu := Try.underlying59
  have hu2 := Try.underlying43
  have hu3 := Try.underlying38
  have HA0 := AX.new w m A l.length c d
  have HF := Sh.mk hF
  obtain ⟨cc, has, hcr⟩ : ∃ cc has, clsR d.f1 = (cc, has) := ⟨_, _, rfl⟩
  have HQ : ∀ W, Sh (Calls Try.prog 42 #[.int .i64 d.f1] W fun e w' => e = .returned (.tuple #[.int .i64 cc, .bool has]) ∧ Below W.heap.size W w') := fun W => ⟨by obtain ⟨k, hk⟩ := (class_ev d.f1).1.rounds; have h := size_Class.calls k d.f1 (clsR d.f1).1 (clsR d.f1).2 W hk; rw [hcr] at h; exact h⟩
  obtain ⟨y0_, y1_, y2_, live, hfr⟩ : ∃ a b c e, findR l d.f2 = (a, b, c, e) := ⟨_, _, _, _, rfl⟩
  have HQ2 : ∀ W, Below w.heap.size w W → Sh (Calls Try.prog 43 #[.agg #[.int .i64 m, .slice A l.length c], .int .i64 d.f2] W fun e w' => e = .returned (.tuple #[.agg #[.int .i64 y0_, .int .i64 y1_, .int .i64 y2_], .bool live]) ∧ Below W.heap.size W w') := fun W hW => ⟨model_Find.calls m A c l d.f2 y0_ y1_ y2_ live W (Kd.F_now (Kd.F_below hF hW)) hc (by rw [find_is hrt hl, hfr])⟩
  have HE : Sh (accR m l d = ((freeR m l d.f2).1, (freeR m l d.f2).2.1, (freeR m l d.f2).2.2 == 0)) := ⟨by unfold accR; rw [if_neg (by omega), if_neg (by omega), if_neg (by omega), if_pos ⟨z0, y0⟩]⟩
  obtain ⟨r1, r2, r3, har⟩ : ∃ a b c, freeR m l d.f2 = (a, b, c) := ⟨_, _, _, rfl⟩
  have HE : Sh (accR m l d = (r1, r2, r3 == 0)) := ⟨by rw [HE.out, har]⟩
  have HQ3 : ∀ W, Below w.heap.size w W → Sh (Calls Try.prog 45 #[.agg #[.int .i64 m, .slice A l.length c], .int .i64 d.f2] W fun e w' => ∃ v1_ : Value, e = .returned (.tuple #[.agg #[.int .i64 r1, v1_], .int .i64 r3]) ∧ Kd.R k59 59 w' W.heap.size (fun _ => True) v1_ r2 ∧ Below W.heap.size W w') := fun W hW => ⟨model_Free.calls m A c l d.f2 r1 r2 r3 W (Kd.F_now (Kd.F_below hF hW)) hc (by rw [free_is hrt hl, har])⟩
  clear har
  have bb0 : (d.f0 == 1) = false := by simp [z0]
  have bb1 : (d.f0 == 2) = true := by simpa using z0
  have bb2 : (d.f3 == 0) = true := by simpa using y0
  clear hcr hF hm hrt hfr z0 y0
  have q20 := HA0.c20; have q21 := HA0.c21; have q30 := HA0.c30; have q31 := HA0.c31; have q32 := HA0.c32; have q33 := HA0.c33; have q40 := HA0.c40; have q41 := HA0.c41; have q4f := HA0.f40; have q4g := HA0.f41
  go_enter Try.func30, Try.ntmps30
  go_wp2_with fail
  (with_reducible refine (HQ _).out.mono ?_); rintro e w2 ⟨rfl, hd⟩; have HA1 := HA0.below hd; clear hd; clear q20 q21 q30 q31 q32 q33 q40 q41 q4f q4g; have q20 := HA1.c20; have q21 := HA1.c21; have q30 := HA1.c30; have q31 := HA1.c31; have q32 := HA1.c32; have q33 := HA1.c33; have q40 := HA1.c40; have q41 := HA1.c41; have q4f := HA1.f40; have q4g := HA1.f41; clear HA0
  go_wp2_with fail
  (with_reducible refine (HQ2 _ HA1.bl).out.mono ?_); rintro e w3 ⟨rfl, hd⟩; have HA2 := HA1.below hd; clear hd; clear q20 q21 q30 q31 q32 q33 q40 q41 q4f q4g; have HA3 := HA2.below (below_alloc (Below.refl _ _) (.cells #[.int .i64 y0_, .int .i64 y1_, .int .i64 y2_] 59)); have q20 := HA3.c20; have q21 := HA3.c21; have q30 := HA3.c30; have q31 := HA3.c31; have q32 := HA3.c32; have q33 := HA3.c33; have q40 := HA3.c40; have q41 := HA3.c41; have q4f := HA3.f40; have q4g := HA3.f41; clear HA1
  go_wp2_with fail
  have hlt := Sh.mk (blk_lt HA3.b4)
  (with_reducible refine (HQ3 _ HA3.bl).out.mono ?_); rintro e w4 ⟨v1, rfl, hv, hd⟩; have HA4 := HA3.below hd; clear hd; obtain ⟨A2, c2, e2⟩ := Kd.R_slice hv; subst e2; have HV := Sh.mk hv; clear hv; clear q20 q21 q30 q31 q32 q33 q40 q41 q4f q4g; have HA5 := HA4.below (below_alloc (Below.refl _ _) (.cells #[.int .i64 r1, .slice A2 r2.length c2] 43)); have q20 := HA5.c20; have q21 := HA5.c21; have q30 := HA5.c30; have q31 := HA5.c31; have q32 := HA5.c32; have q33 := HA5.c33; have q40 := HA5.c40; have q41 := HA5.c41; have q4f := HA5.f40; have q4g := HA5.f41
  go_wp2
  refine bodyPost_ret (v := .tuple #[.agg #[.int .i64 r1, .slice A2 r2.length c2], .bool (r3 == 0)]) (by simp [HA5.p0, HA5.p1, results, Try.results30, go_sem]) rfl ?_
  exact after_new HE.out HA5.bl hlt.out (Kd.R_alloc HV.out _) _ _
set_option maxRecDepth 100000 in
set_option maxHeartbeats 4000000 in
theorem after_22 (m : Int) (A : Option Addr) (c : Nat) (l : List Lv) (d : De) (ok : Nat → Prop) (w : World) (hm : mOk m) (hrt : rtL m l) (hl : l.length ≤ 1000) (hF : Kd.F k59 w ok A l.length l) (hc : l.length ≤ c) (z0 : d.f0 = 2) (y0 : ¬ d.f3 = 0) (y1 : d.f3 = 2) :
    Calls Try.prog 30 #[.agg #[.int .i64 m, .slice A l.length c], .agg #[.int .i64 d.f0, .int .i64 d.f1, .int .i64 d.f2, .int .i64 d.f3]] w (AfterPost m l d ok w) := by
  have hu := Try.underlying59
  have hu2 := Try.underlying43
  have hu3 := Try.underlying38
  have HA0 := AX.new w m A l.length c d
  have HF := Sh.mk hF
  obtain ⟨cc, has, hcr⟩ : ∃ cc has, clsR d.f1 = (cc, has) := ⟨_, _, rfl⟩
  have HQ : ∀ W, Sh (Calls Try.prog 42 #[.int .i64 d.f1] W fun e w' => e = .returned (.tuple #[.int .i64 cc, .bool has]) ∧ Below W.heap.size W w') := fun W => ⟨by obtain ⟨k, hk⟩ := (class_ev d.f1).1.rounds; have h := size_Class.calls k d.f1 (clsR d.f1).1 (clsR d.f1).2 W hk; rw [hcr] at h; exact h⟩
  obtain ⟨y0_, y1_, y2_, live, hfr⟩ : ∃ a b c e, findR l d.f2 = (a, b, c, e) := ⟨_, _, _, _, rfl⟩
  have HQ2 : ∀ W, Below w.heap.size w W → Sh (Calls Try.prog 43 #[.agg #[.int .i64 m, .slice A l.length c], .int .i64 d.f2] W fun e w' => e = .returned (.tuple #[.agg #[.int .i64 y0_, .int .i64 y1_, .int .i64 y2_], .bool live]) ∧ Below W.heap.size W w') := fun W hW => ⟨model_Find.calls m A c l d.f2 y0_ y1_ y2_ live W (Kd.F_now (Kd.F_below hF hW)) hc (by rw [find_is hrt hl, hfr])⟩
  have HE : Sh (accR m l d = (m, l, !live)) := ⟨by unfold accR; rw [if_neg (by omega), if_neg (by omega), if_neg (by omega), if_neg (by omega), if_pos ⟨z0, y1⟩, hfr]⟩
  have bb0 : (d.f0 == 1) = false := by simp [z0]
  have bb1 : (d.f0 == 2) = true := by simpa using z0
  have bb2 : (d.f3 == 0) = false := by simpa using y0
  have bb3 : (d.f3 == 2) = true := by simpa using y1
  clear hcr hF hm hrt hfr z0 y0 y1
  have q20 := HA0.c20; have q21 := HA0.c21; have q30 := HA0.c30; have q31 := HA0.c31; have q32 := HA0.c32; have q33 := HA0.c33; have q40 := HA0.c40; have q41 := HA0.c41; have q4f := HA0.f40; have q4g := HA0.f41
  go_enter Try.func30, Try.ntmps30
  go_wp2_with fail
  (with_reducible refine (HQ _).out.mono ?_); rintro e w2 ⟨rfl, hd⟩; have HA1 := HA0.below hd; clear hd; clear q20 q21 q30 q31 q32 q33 q40 q41 q4f q4g; have q20 := HA1.c20; have q21 := HA1.c21; have q30 := HA1.c30; have q31 := HA1.c31; have q32 := HA1.c32; have q33 := HA1.c33; have q40 := HA1.c40; have q41 := HA1.c41; have q4f := HA1.f40; have q4g := HA1.f41; clear HA0
  go_wp2_with fail
  (with_reducible refine (HQ2 _ HA1.bl).out.mono ?_); rintro e w3 ⟨rfl, hd⟩; have HA2 := HA1.below hd; clear hd; clear q20 q21 q30 q31 q32 q33 q40 q41 q4f q4g; have HA3 := HA2.below (below_alloc (Below.refl _ _) (.cells #[.int .i64 y0_, .int .i64 y1_, .int .i64 y2_] 59)); have q20 := HA3.c20; have q21 := HA3.c21; have q30 := HA3.c30; have q31 := HA3.c31; have q32 := HA3.c32; have q33 := HA3.c33; have q40 := HA3.c40; have q41 := HA3.c41; have q4f := HA3.f40; have q4g := HA3.f41; clear HA1
  go_wp2
  refine bodyPost_ret (v := .tuple #[.agg #[.int .i64 m, .slice A l.length c], .bool (!live)]) (by simp [HA3.p0, HA3.p1, results, Try.results30, go_sem]) rfl ?_
  exact after_same HF.out hc HE.out HA3.bl _ _
set_option maxRecDepth 100000 in
set_option maxHeartbeats 4000000 in
theorem after_2x (m : Int) (A : Option Addr) (c : Nat) (l : List Lv) (d : De) (ok : Nat → Prop) (w : World) (hm : mOk m) (hrt : rtL m l) (hl : l.length ≤ 1000) (hF : Kd.F k59 w ok A l.length l) (hc : l.length ≤ c) (z0 : d.f0 = 2) (y0 : ¬ d.f3 = 0) (y1 : ¬ d.f3 = 2) :
    Calls Try.prog 30 #[.agg #[.int .i64 m, .slice A l.length c], .agg #[.int .i64 d.f0, .int .i64 d.f1, .int .i64 d.f2, .int .i64 d.f3]] w (AfterPost m l d ok w) := by
  have hu := Try.underlying59
  have hu2 := Try.underlying43
  have hu3 := Try.underlying38
  have HA0 := AX.new w m A l.length c d
  have HF := Sh.mk hF
  obtain ⟨cc, has, hcr⟩ : ∃ cc has, clsR d.f1 = (cc, has) := ⟨_, _, rfl⟩
  have HQ : ∀ W, Sh (Calls Try.prog 42 #[.int .i64 d.f1] W fun e w' => e = .returned (.tuple #[.int .i64 cc, .bool has]) ∧ Below W.heap.size W w') := fun W => ⟨by obtain ⟨k, hk⟩ := (class_ev d.f1).1.rounds; have h := size_Class.calls k d.f1 (clsR d.f1).1 (clsR d.f1).2 W hk; rw [hcr] at h; exact h⟩
  obtain ⟨y0_, y1_, y2_, live, hfr⟩ : ∃ a b c e, findR l d.f2 = (a, b, c, e) := ⟨_, _, _, _, rfl⟩
  have HQ2 : ∀ W, Below w.heap.size w W → Sh (Calls Try.prog 43 #[.agg #[.int .i64 m, .slice A l.length c], .int .i64 d.f2] W fun e w' => e = .returned (.tuple #[.agg #[.int .i64 y0_, .int .i64 y1_, .int .i64 y2_], .bool live]) ∧ Below W.heap.size W w') := fun W hW => ⟨model_Find.calls m A c l d.f2 y0_ y1_ y2_ live W (Kd.F_now (Kd.F_below hF hW)) hc (by rw [find_is hrt hl, hfr])⟩
  have HE : Sh (accR m l d = (m, l, false)) := ⟨by unfold accR; rw [if_neg (by omega), if_neg (by omega), if_neg (by omega), if_neg (by omega), if_neg (by omega)]⟩
  have bb0 : (d.f0 == 1) = false := by simp [z0]
  have bb1 : (d.f0 == 2) = true := by simpa using z0
  have bb2 : (d.f3 == 0) = false := by simpa using y0
  have bb3 : (d.f3 == 2) = false := by simpa using y1
  clear hcr hF hm hrt hfr z0 y0 y1
  have q20 := HA0.c20; have q21 := HA0.c21; have q30 := HA0.c30; have q31 := HA0.c31; have q32 := HA0.c32; have q33 := HA0.c33; have q40 := HA0.c40; have q41 := HA0.c41; have q4f := HA0.f40; have q4g := HA0.f41
  go_enter Try.func30, Try.ntmps30
  go_wp2_with fail
  (with_reducible refine (HQ _).out.mono ?_); rintro e w2 ⟨rfl, hd⟩; have HA1 := HA0.below hd; clear hd; clear q20 q21 q30 q31 q32 q33 q40 q41 q4f q4g; have q20 := HA1.c20; have q21 := HA1.c21; have q30 := HA1.c30; have q31 := HA1.c31; have q32 := HA1.c32; have q33 := HA1.c33; have q40 := HA1.c40; have q41 := HA1.c41; have q4f := HA1.f40; have q4g := HA1.f41; clear HA0
  go_wp2_with fail
  (with_reducible refine (HQ2 _ HA1.bl).out.mono ?_); rintro e w3 ⟨rfl, hd⟩; have HA2 := HA1.below hd; clear hd; clear q20 q21 q30 q31 q32 q33 q40 q41 q4f q4g; have HA3 := HA2.below (below_alloc (Below.refl _ _) (.cells #[.int .i64 y0_, .int .i64 y1_, .int .i64 y2_] 59)); have q20 := HA3.c20; have q21 := HA3.c21; have q30 := HA3.c30; have q31 := HA3.c31; have q32 := HA3.c32; have q33 := HA3.c33; have q40 := HA3.c40; have q41 := HA3.c41; have q4f := HA3.f40; have q4g := HA3.f41; clear HA1
  go_wp2
  refine bodyPost_ret (v := .tuple #[.agg #[.int .i64 m, .slice A l.length c], .bool (false)]) (by simp [HA3.p0, HA3.p1, results, Try.results30, go_sem]) rfl ?_
  exact after_same HF.out hc HE.out HA3.bl _ _
set_option maxRecDepth 100000 in
set_option maxHeartbeats 4000000 in
theorem after_xx (m : Int) (A : Option Addr) (c : Nat) (l : List Lv) (d : De) (ok : Nat → Prop) (w : World) (hm : mOk m) (hrt : rtL m l) (hl : l.length ≤ 1000) (hF : Kd.F k59 w ok A l.length l) (hc : l.length ≤ c) (z1 : ¬ d.f0 = 1) (z2 : ¬ d.f0 = 2) :
    Calls Try.prog 30 #[.agg #[.int .i64 m, .slice A l.length c], .agg #[.int .i64 d.f0, .int .i64 d.f1, .int .i64 d.f2, .int .i64 d.f3]] w (AfterPost m l d ok w) := by
  have hu := Try.underlying59
  have hu2 := Try.underlying43
  have hu3 := Try.underlying38
  have HA0 := AX.new w m A l.length c d
  have HF := Sh.mk hF
  obtain ⟨cc, has, hcr⟩ : ∃ cc has, clsR d.f1 = (cc, has) := ⟨_, _, rfl⟩
  have HQ : ∀ W, Sh (Calls Try.prog 42 #[.int .i64 d.f1] W fun e w' => e = .returned (.tuple #[.int .i64 cc, .bool has]) ∧ Below W.heap.size W w') := fun W => ⟨by obtain ⟨k, hk⟩ := (class_ev d.f1).1.rounds; have h := size_Class.calls k d.f1 (clsR d.f1).1 (clsR d.f1).2 W hk; rw [hcr] at h; exact h⟩
  obtain ⟨y0_, y1_, y2_, live, hfr⟩ : ∃ a b c e, findR l d.f2 = (a, b, c, e) := ⟨_, _, _, _, rfl⟩
  have HQ2 : ∀ W, Below w.heap.size w W → Sh (Calls Try.prog 43 #[.agg #[.int .i64 m, .slice A l.length c], .int .i64 d.f2] W fun e w' => e = .returned (.tuple #[.agg #[.int .i64 y0_, .int .i64 y1_, .int .i64 y2_], .bool live]) ∧ Below W.heap.size W w') := fun W hW => ⟨model_Find.calls m A c l d.f2 y0_ y1_ y2_ live W (Kd.F_now (Kd.F_below hF hW)) hc (by rw [find_is hrt hl, hfr])⟩
  have HE : Sh (accR m l d = (m, l, false)) := ⟨by unfold accR; rw [if_neg (by omega), if_neg (by omega), if_neg (by omega), if_neg (by omega), if_neg (by omega)]⟩
  have bb0 : (d.f0 == 1) = false := by simpa using z1
  have bb1 : (d.f0 == 2) = false := by simpa using z2
  clear hcr hF hm hrt hfr z1 z2
  have q20 := HA0.c20; have q21 := HA0.c21; have q30 := HA0.c30; have q31 := HA0.c31; have q32 := HA0.c32; have q33 := HA0.c33; have q40 := HA0.c40; have q41 := HA0.c41; have q4f := HA0.f40; have q4g := HA0.f41
  go_enter Try.func30, Try.ntmps30
  go_wp2_with fail
  (with_reducible refine (HQ _).out.mono ?_); rintro e w2 ⟨rfl, hd⟩; have HA1 := HA0.below hd; clear hd; clear q20 q21 q30 q31 q32 q33 q40 q41 q4f q4g; have q20 := HA1.c20; have q21 := HA1.c21; have q30 := HA1.c30; have q31 := HA1.c31; have q32 := HA1.c32; have q33 := HA1.c33; have q40 := HA1.c40; have q41 := HA1.c41; have q4f := HA1.f40; have q4g := HA1.f41; clear HA0
  go_wp2_with fail
  (with_reducible refine (HQ2 _ HA1.bl).out.mono ?_); rintro e w3 ⟨rfl, hd⟩; have HA2 := HA1.below hd; clear hd; clear q20 q21 q30 q31 q32 q33 q40 q41 q4f q4g; have HA3 := HA2.below (below_alloc (Below.refl _ _) (.cells #[.int .i64 y0_, .int .i64 y1_, .int .i64 y2_] 59)); have q20 := HA3.c20; have q21 := HA3.c21; have q30 := HA3.c30; have q31 := HA3.c31; have q32 := HA3.c32; have q33 := HA3.c33; have q40 := HA3.c40; have q41 := HA3.c41; have q4f := HA3.f40; have q4g := HA3.f41; clear HA1
  go_wp2
  refine bodyPost_ret (v := .tuple #[.agg #[.int .i64 m, .slice A l.length c], .bool (false)]) (by simp [HA3.p0, HA3.p1, results, Try.results30, go_sem]) rfl ?_
  exact after_same HF.out hc HE.out HA3.bl _ _
theorem after_any (m : Int) (A : Option Addr) (c : Nat) (l : List Lv) (d : De) (ok : Nat → Prop) (w : World) (hm : mOk m) (hrt : rtL m l) (hl : l.length ≤ 1000) (hF : Kd.F k59 w ok A l.length l) (hc : l.length ≤ c) :
    Calls Try.prog 30 #[.agg #[.int .i64 m, .slice A l.length c], .agg #[.int .i64 d.f0, .int .i64 d.f1, .int .i64 d.f2, .int .i64 d.f3]] w (AfterPost m l d ok w) := by
  by_cases z1 : d.f0 = 1
  · by_cases y0 : d.f3 = 0
    · exact after_10 m A c l d ok w hm hrt hl hF hc z1 y0
    · by_cases y1 : d.f3 = 3
      · exact after_13 m A c l d ok w hm hrt hl hF hc z1 y0 y1
      · by_cases y2 : d.f3 = 1
        · exact after_11 m A c l d ok w hm hrt hl hF hc z1 y0 y1 y2
        · exact after_1x m A c l d ok w hm hrt hl hF hc z1 y0 y1 y2
  · by_cases z2 : d.f0 = 2
    · by_cases y0 : d.f3 = 0
      · exact after_20 m A c l d ok w hm hrt hl hF hc z2 y0
      · by_cases y1 : d.f3 = 2
        · exact after_22 m A c l d ok w hm hrt hl hF hc z2 y0 y1
        · exact after_2x m A c l d ok w hm hrt hl hF hc z2 y0 y1
    · exact after_xx m A c l d ok w hm hrt hl hF hc z1 z2
set_option maxRecDepth 100000 in
set_option maxHeartbeats 4000000 in
theorem accept_10 (m : Int) (A : Option Addr) (c : Nat) (l : List Lv) (d : De) (ok : Nat → Prop) (w : World) (hm : mOk m) (hrt : rtL m l) (hl : l.length ≤ 1000) (hF : Kd.F k59 w ok A l.length l) (hc : l.length ≤ c) (z0 : d.f0 = 1) (y0 : d.f3 = 0) :
    Calls Try.prog 47 #[.agg #[.int .i64 m, .slice A l.length c], .agg #[.int .i64 d.f0, .int .i64 d.f1, .int .i64 d.f2, .int .i64 d.f3]] w (AfterPost m l d ok w) := by
  have hu := Try.underlying59
  have hu2 := Try.underlying43
  have hu3 := Try.underlying38
  have HA0 := AX.new w m A l.length c d
  have HF := Sh.mk hF
  obtain ⟨cc, has, hcr⟩ : ∃ cc has, clsR d.f1 = (cc, has) := ⟨_, _, rfl⟩
  have HQ : ∀ W, Sh (Calls Try.prog 40 #[.int .i64 d.f1] W fun e w' => e = .returned (.tuple #[.int .i64 cc, .bool has]) ∧ Below W.heap.size W w') := fun W => ⟨by have h := (class_q d.f1 W).mono (R' := fun e w' => e = .returned (.tuple #[.int .i64 (clsR d.f1).1, .bool (clsR d.f1).2]) ∧ Below W.heap.size W w') (fun e w' ⟨h1, q, h2⟩ => ⟨h1, by subst h2; exact pw_below_drewN (Below.refl _ _) _⟩); rw [hcr] at h; exact h⟩
  have HE : Sh (accR m l d = allocR m l d.f1 d.f2) := ⟨by unfold accR; rw [if_pos ⟨z0, y0⟩]⟩
  obtain ⟨r1, r2, r3, har⟩ : ∃ a b c, allocR m l d.f1 d.f2 = (a, b, c) := ⟨_, _, _, rfl⟩
  have HE := Sh.mk (HE.out.trans har)
  have HQ3 : ∀ W, Below w.heap.size w W → Sh (Calls Try.prog 39 #[.agg #[.int .i64 m, .slice A l.length c], .int .i64 d.f1, .int .i64 d.f2] W fun e w' => ∃ v1_ : Value, e = .returned (.tuple #[.agg #[.int .i64 r1, v1_], .bool r3]) ∧ Kd.R k59 59 w' W.heap.size (fun _ => True) v1_ r2 ∧ Below W.heap.size W w') := fun W hW => ⟨rickyardref13_Alloc.calls m A c l d.f1 d.f2 r1 r2 r3 W (Kd.F_now (Kd.F_below hF hW)) hc (by unfold rickyardref13_Alloc.f; rw [if_pos hl, ralloc_is hm hrt, har])⟩
  clear har
  have bb0 : (d.f0 == 1) = true := by simpa using z0
  have bb1 : (d.f0 == 2) = false := by simp [z0]
  have bb2 : (d.f3 == 0) = true := by simpa using y0
  clear hcr hF hm hrt z0 y0
  have q20 := HA0.c20; have q21 := HA0.c21; have q30 := HA0.c30; have q31 := HA0.c31; have q32 := HA0.c32; have q33 := HA0.c33; have q40 := HA0.c40; have q41 := HA0.c41; have q4f := HA0.f40; have q4g := HA0.f41
  go_enter Try.func47, Try.ntmps47
  go_wp2_with fail
  (with_reducible refine (HQ _).out.mono ?_); rintro e w2 ⟨rfl, hd⟩; have HA1 := HA0.below hd; clear hd; clear q20 q21 q30 q31 q32 q33 q40 q41 q4f q4g; have q20 := HA1.c20; have q21 := HA1.c21; have q30 := HA1.c30; have q31 := HA1.c31; have q32 := HA1.c32; have q33 := HA1.c33; have q40 := HA1.c40; have q41 := HA1.c41; have q4f := HA1.f40; have q4g := HA1.f41; clear HA0
  go_wp2_with fail
  have hlt := Sh.mk (blk_lt HA1.b4)
  (with_reducible refine (HQ3 _ HA1.bl).out.mono ?_); rintro e w4 ⟨v1, rfl, hv, hd⟩; have HA4 := HA1.below hd; clear hd; obtain ⟨A2, c2, e2⟩ := Kd.R_slice hv; subst e2; have HV := Sh.mk hv; clear hv; clear q20 q21 q30 q31 q32 q33 q40 q41 q4f q4g; have q20 := HA4.c20; have q21 := HA4.c21; have q30 := HA4.c30; have q31 := HA4.c31; have q32 := HA4.c32; have q33 := HA4.c33; have q40 := HA4.c40; have q41 := HA4.c41; have q4f := HA4.f40; have q4g := HA4.f41
  go_wp2
  refine bodyPost_ret (v := .tuple #[.agg #[.int .i64 r1, .slice A2 r2.length c2], .bool r3]) (by simp [HA4.p0, HA4.p1, results, Try.results47, go_sem]) rfl ?_
  exact after_new HE.out HA4.bl hlt.out HV.out _ _
set_option maxRecDepth 100000 in
set_option maxHeartbeats 4000000 in
theorem accept_13 (m : Int) (A : Option Addr) (c : Nat) (l : List Lv) (d : De) (ok : Nat → Prop) (w : World) (hm : mOk m) (hrt : rtL m l) (hl : l.length ≤ 1000) (hF : Kd.F k59 w ok A l.length l) (hc : l.length ≤ c) (z0 : d.f0 = 1) (y0 : ¬ d.f3 = 0) (y1 : d.f3 = 3) :
    Calls Try.prog 47 #[.agg #[.int .i64 m, .slice A l.length c], .agg #[.int .i64 d.f0, .int .i64 d.f1, .int .i64 d.f2, .int .i64 d.f3]] w (AfterPost m l d ok w) := by
  have hu := Try.underlying59
  have hu2 := Try.underlying43
  have hu3 := Try.underlying38
  have HA0 := AX.new w m A l.length c d
  have HF := Sh.mk hF
  obtain ⟨cc, has, hcr⟩ : ∃ cc has, clsR d.f1 = (cc, has) := ⟨_, _, rfl⟩
  have HQ : ∀ W, Sh (Calls Try.prog 40 #[.int .i64 d.f1] W fun e w' => e = .returned (.tuple #[.int .i64 cc, .bool has]) ∧ Below W.heap.size W w') := fun W => ⟨by have h := (class_q d.f1 W).mono (R' := fun e w' => e = .returned (.tuple #[.int .i64 (clsR d.f1).1, .bool (clsR d.f1).2]) ∧ Below W.heap.size W w') (fun e w' ⟨h1, q, h2⟩ => ⟨h1, by subst h2; exact pw_below_drewN (Below.refl _ _) _⟩); rw [hcr] at h; exact h⟩
  have HE : Sh (accR m l d = (m, l, has)) := ⟨by unfold accR; rw [if_neg (fun h => y0 h.2), if_pos ⟨z0, y1⟩, hcr]⟩
  have bb0 : (d.f0 == 1) = true := by simpa using z0
  have bb1 : (d.f0 == 2) = false := by simp [z0]
  have bb2 : (d.f3 == 0) = false := by simpa using y0
  have bb3 : (d.f3 == 3) = true := by simpa using y1
  clear hcr hF hm hrt z0 y0 y1
  have q20 := HA0.c20; have q21 := HA0.c21; have q30 := HA0.c30; have q31 := HA0.c31; have q32 := HA0.c32; have q33 := HA0.c33; have q40 := HA0.c40; have q41 := HA0.c41; have q4f := HA0.f40; have q4g := HA0.f41
  go_enter Try.func47, Try.ntmps47
  go_wp2_with fail
  (with_reducible refine (HQ _).out.mono ?_); rintro e w2 ⟨rfl, hd⟩; have HA1 := HA0.below hd; clear hd; clear q20 q21 q30 q31 q32 q33 q40 q41 q4f q4g; have q20 := HA1.c20; have q21 := HA1.c21; have q30 := HA1.c30; have q31 := HA1.c31; have q32 := HA1.c32; have q33 := HA1.c33; have q40 := HA1.c40; have q41 := HA1.c41; have q4f := HA1.f40; have q4g := HA1.f41; clear HA0
  go_wp2
  refine bodyPost_ret (v := .tuple #[.agg #[.int .i64 m, .slice A l.length c], .bool (has)]) (by simp [HA1.p0, HA1.p1, results, Try.results47, go_sem]) rfl ?_
  exact after_same HF.out hc HE.out HA1.bl _ _
set_option maxRecDepth 100000 in
set_option maxHeartbeats 4000000 in
theorem accept_11 (m : Int) (A : Option Addr) (c : Nat) (l : List Lv) (d : De) (ok : Nat → Prop) (w : World) (hm : mOk m) (hrt : rtL m l) (hl : l.length ≤ 1000) (hF : Kd.F k59 w ok A l.length l) (hc : l.length ≤ c) (z0 : d.f0 = 1) (y0 : ¬ d.f3 = 0) (y1 : ¬ d.f3 = 3) (y2 : d.f3 = 1) :
    Calls Try.prog 47 #[.agg #[.int .i64 m, .slice A l.length c], .agg #[.int .i64 d.f0, .int .i64 d.f1, .int .i64 d.f2, .int .i64 d.f3]] w (AfterPost m l d ok w) := by
  have hu := Try.underlying59
  have hu2 := Try.underlying43
  have hu3 := Try.underlying38
  have HA0 := AX.new w m A l.length c d
  have HF := Sh.mk hF
  obtain ⟨cc, has, hcr⟩ : ∃ cc has, clsR d.f1 = (cc, has) := ⟨_, _, rfl⟩
  have HQ : ∀ W, Sh (Calls Try.prog 40 #[.int .i64 d.f1] W fun e w' => e = .returned (.tuple #[.int .i64 cc, .bool has]) ∧ Below W.heap.size W w') := fun W => ⟨by have h := (class_q d.f1 W).mono (R' := fun e w' => e = .returned (.tuple #[.int .i64 (clsR d.f1).1, .bool (clsR d.f1).2]) ∧ Below W.heap.size W w') (fun e w' ⟨h1, q, h2⟩ => ⟨h1, by subst h2; exact pw_below_drewN (Below.refl _ _) _⟩); rw [hcr] at h; exact h⟩
  have HE : Sh (accR m l d = (m, l, !has)) := ⟨by unfold accR; rw [if_neg (fun h => y0 h.2), if_neg (fun h => y1 h.2), if_pos ⟨z0, y2⟩, hcr]⟩
  have bb0 : (d.f0 == 1) = true := by simpa using z0
  have bb1 : (d.f0 == 2) = false := by simp [z0]
  have bb2 : (d.f3 == 0) = false := by simpa using y0
  have bb3 : (d.f3 == 3) = false := by simpa using y1
  have bb4 : (d.f3 == 1) = true := by simpa using y2
  clear hcr hF hm hrt z0 y0 y1 y2
  have q20 := HA0.c20; have q21 := HA0.c21; have q30 := HA0.c30; have q31 := HA0.c31; have q32 := HA0.c32; have q33 := HA0.c33; have q40 := HA0.c40; have q41 := HA0.c41; have q4f := HA0.f40; have q4g := HA0.f41
  go_enter Try.func47, Try.ntmps47
  go_wp2_with fail
  (with_reducible refine (HQ _).out.mono ?_); rintro e w2 ⟨rfl, hd⟩; have HA1 := HA0.below hd; clear hd; clear q20 q21 q30 q31 q32 q33 q40 q41 q4f q4g; have q20 := HA1.c20; have q21 := HA1.c21; have q30 := HA1.c30; have q31 := HA1.c31; have q32 := HA1.c32; have q33 := HA1.c33; have q40 := HA1.c40; have q41 := HA1.c41; have q4f := HA1.f40; have q4g := HA1.f41; clear HA0
  go_wp2
  refine bodyPost_ret (v := .tuple #[.agg #[.int .i64 m, .slice A l.length c], .bool (!has)]) (by simp [HA1.p0, HA1.p1, results, Try.results47, go_sem]) rfl ?_
  exact after_same HF.out hc HE.out HA1.bl _ _
set_option maxRecDepth 100000 in
set_option maxHeartbeats 4000000 in
theorem accept_1x (m : Int) (A : Option Addr) (c : Nat) (l : List Lv) (d : De) (ok : Nat → Prop) (w : World) (hm : mOk m) (hrt : rtL m l) (hl : l.length ≤ 1000) (hF : Kd.F k59 w ok A l.length l) (hc : l.length ≤ c) (z0 : d.f0 = 1) (y0 : ¬ d.f3 = 0) (y1 : ¬ d.f3 = 3) (y2 : ¬ d.f3 = 1) :
    Calls Try.prog 47 #[.agg #[.int .i64 m, .slice A l.length c], .agg #[.int .i64 d.f0, .int .i64 d.f1, .int .i64 d.f2, .int .i64 d.f3]] w (AfterPost m l d ok w) := by
  have hu := Try.underlying59
  have hu2 := Try.underlying43
  have hu3 := Try.underlying38
  have HA0 := AX.new w m A l.length c d
  have HF := Sh.mk hF
  obtain ⟨cc, has, hcr⟩ : ∃ cc has, clsR d.f1 = (cc, has) := ⟨_, _, rfl⟩
  have HQ : ∀ W, Sh (Calls Try.prog 40 #[.int .i64 d.f1] W fun e w' => e = .returned (.tuple #[.int .i64 cc, .bool has]) ∧ Below W.heap.size W w') := fun W => ⟨by have h := (class_q d.f1 W).mono (R' := fun e w' => e = .returned (.tuple #[.int .i64 (clsR d.f1).1, .bool (clsR d.f1).2]) ∧ Below W.heap.size W w') (fun e w' ⟨h1, q, h2⟩ => ⟨h1, by subst h2; exact pw_below_drewN (Below.refl _ _) _⟩); rw [hcr] at h; exact h⟩
  have HE : Sh (accR m l d = (m, l, false)) := ⟨by unfold accR; rw [if_neg (fun h => y0 h.2), if_neg (fun h => y1 h.2), if_neg (fun h => y2 h.2), if_neg (by omega), if_neg (by omega)]⟩
  have bb0 : (d.f0 == 1) = true := by simpa using z0
  have bb1 : (d.f0 == 2) = false := by simp [z0]
  have bb2 : (d.f3 == 0) = false := by simpa using y0
  have bb3 : (d.f3 == 3) = false := by simpa using y1
  have bb4 : (d.f3 == 1) = false := by simpa using y2
  clear hcr hF hm hrt z0 y0 y1 y2
  have q20 := HA0.c20; have q21 := HA0.c21; have q30 := HA0.c30; have q31 := HA0.c31; have q32 := HA0.c32; have q33 := HA0.c33; have q40 := HA0.c40; have q41 := HA0.c41; have q4f := HA0.f40; have q4g := HA0.f41
  go_enter Try.func47, Try.ntmps47
  go_wp2_with fail
  (with_reducible refine (HQ _).out.mono ?_); rintro e w2 ⟨rfl, hd⟩; have HA1 := HA0.below hd; clear hd; clear q20 q21 q30 q31 q32 q33 q40 q41 q4f q4g; have q20 := HA1.c20; have q21 := HA1.c21; have q30 := HA1.c30; have q31 := HA1.c31; have q32 := HA1.c32; have q33 := HA1.c33; have q40 := HA1.c40; have q41 := HA1.c41; have q4f := HA1.f40; have q4g := HA1.f41; clear HA0
  go_wp2
  refine bodyPost_ret (v := .tuple #[.agg #[.int .i64 m, .slice A l.length c], .bool (false)]) (by simp [HA1.p0, HA1.p1, results, Try.results47, go_sem]) rfl ?_
  exact after_same HF.out hc HE.out HA1.bl _ _
set_option maxRecDepth 100000 in
set_option maxHeartbeats 4000000 in
theorem accept_20 (m : Int) (A : Option Addr) (c : Nat) (l : List Lv) (d : De) (ok : Nat → Prop) (w : World) (hm : mOk m) (hrt : rtL m l) (hl : l.length ≤ 1000) (hF : Kd.F k59 w ok A l.length l) (hc : l.length ≤ c) (z0 : d.f0 = 2) (y0 : d.f3 = 0) :
    Calls Try.prog 47 #[.agg #[.int .i64 m, .slice A l.length c], .agg #[.int .i64 d.f0, .int .i64 d.f1, .int .i64 d.f2, .int .i64 d.f3]] w (AfterPost m l d ok w) := by
  have hu := Try.underlying59
  have hu2 := Try.underlying43
  have hu3 := Try.underlying38
  have HA0 := AX.new w m A l.length c d
  have HF := Sh.mk hF
  obtain ⟨cc, has, hcr⟩ : ∃ cc has, clsR d.f1 = (cc, has) := ⟨_, _, rfl⟩
  have HQ : ∀ W, Sh (Calls Try.prog 40 #[.int .i64 d.f1] W fun e w' => e = .returned (.tuple #[.int .i64 cc, .bool has]) ∧ Below W.heap.size W w') := fun W => ⟨by have h := (class_q d.f1 W).mono (R' := fun e w' => e = .returned (.tuple #[.int .i64 (clsR d.f1).1, .bool (clsR d.f1).2]) ∧ Below W.heap.size W w') (fun e w' ⟨h1, q, h2⟩ => ⟨h1, by subst h2; exact pw_below_drewN (Below.refl _ _) _⟩); rw [hcr] at h; exact h⟩
  have HE : Sh (accR m l d = ((freeR m l d.f2).1, (freeR m l d.f2).2.1, (freeR m l d.f2).2.2 == 0)) := ⟨by unfold accR; rw [if_neg (by omega), if_neg (by omega), if_neg (by omega), if_pos ⟨z0, y0⟩]⟩
  obtain ⟨r1, r2, r3, har⟩ : ∃ a b c, freeR m l d.f2 = (a, b, c) := ⟨_, _, _, rfl⟩
  have HE : Sh (accR m l d = (r1, r2, r3 == 0)) := ⟨by rw [HE.out, har]⟩
  have HQ3 : ∀ W, Below w.heap.size w W → Sh (Calls Try.prog 38 #[.agg #[.int .i64 m, .slice A l.length c], .int .i64 d.f2] W fun e w' => ∃ v1_ : Value, e = .returned (.tuple #[.agg #[.int .i64 r1, v1_], .int .i64 r3]) ∧ Kd.R k59 59 w' W.heap.size (fun _ => True) v1_ r2 ∧ Below W.heap.size W w') := fun W hW => ⟨by obtain ⟨k, hk⟩ := (rfree_ev hrt hl d.f2).rounds; exact rickyardref13_Free.calls k m A c l d.f2 r1 r2 r3 W (Kd.F_now (Kd.F_below hF hW)) hc (by rw [hk, har])⟩
  clear har
  have bb0 : (d.f0 == 1) = false := by simp [z0]
  have bb1 : (d.f0 == 2) = true := by simpa using z0
  have bb2 : (d.f3 == 0) = true := by simpa using y0
  clear hcr hF hm hrt z0 y0
  have q20 := HA0.c20; have q21 := HA0.c21; have q30 := HA0.c30; have q31 := HA0.c31; have q32 := HA0.c32; have q33 := HA0.c33; have q40 := HA0.c40; have q41 := HA0.c41; have q4f := HA0.f40; have q4g := HA0.f41
  go_enter Try.func47, Try.ntmps47
  go_wp2_with fail
  (with_reducible refine (HQ _).out.mono ?_); rintro e w2 ⟨rfl, hd⟩; have HA1 := HA0.below hd; clear hd; clear q20 q21 q30 q31 q32 q33 q40 q41 q4f q4g; have q20 := HA1.c20; have q21 := HA1.c21; have q30 := HA1.c30; have q31 := HA1.c31; have q32 := HA1.c32; have q33 := HA1.c33; have q40 := HA1.c40; have q41 := HA1.c41; have q4f := HA1.f40; have q4g := HA1.f41; clear HA0
  go_wp2_with fail
  have hlt := Sh.mk (blk_lt HA1.b4)
  (with_reducible refine (HQ3 _ HA1.bl).out.mono ?_); rintro e w4 ⟨v1, rfl, hv, hd⟩; have HA4 := HA1.below hd; clear hd; obtain ⟨A2, c2, e2⟩ := Kd.R_slice hv; subst e2; have HV := Sh.mk hv; clear hv; clear q20 q21 q30 q31 q32 q33 q40 q41 q4f q4g; have HA5 := HA4.below (below_alloc (Below.refl _ _) (.cells #[.int .i64 r1, .slice A2 r2.length c2] 43)); have q20 := HA5.c20; have q21 := HA5.c21; have q30 := HA5.c30; have q31 := HA5.c31; have q32 := HA5.c32; have q33 := HA5.c33; have q40 := HA5.c40; have q41 := HA5.c41; have q4f := HA5.f40; have q4g := HA5.f41
  go_wp2
  refine bodyPost_ret (v := .tuple #[.agg #[.int .i64 r1, .slice A2 r2.length c2], .bool (r3 == 0)]) (by simp [HA5.p0, HA5.p1, results, Try.results47, go_sem]) rfl ?_
  exact after_new HE.out HA5.bl hlt.out (Kd.R_alloc HV.out _) _ _
set_option maxRecDepth 100000 in
set_option maxHeartbeats 4000000 in
theorem accept_22 (m : Int) (A : Option Addr) (c : Nat) (l : List Lv) (d : De) (ok : Nat → Prop) (w : World) (hm : mOk m) (hrt : rtL m l) (hl : l.length ≤ 1000) (hF : Kd.F k59 w ok A l.length l) (hc : l.length ≤ c) (z0 : d.f0 = 2) (y0 : ¬ d.f3 = 0) (y1 : d.f3 = 2) :
    Calls Try.prog 47 #[.agg #[.int .i64 m, .slice A l.length c], .agg #[.int .i64 d.f0, .int .i64 d.f1, .int .i64 d.f2, .int .i64 d.f3]] w (AfterPost m l d ok w) := by
  have hu := Try.underlying59
  have hu2 := Try.underlying43
  have hu3 := Try.underlying38
  have HA0 := AX.new w m A l.length c d
  have HF := Sh.mk hF
  obtain ⟨cc, has, hcr⟩ : ∃ cc has, clsR d.f1 = (cc, has) := ⟨_, _, rfl⟩
  have HQ : ∀ W, Sh (Calls Try.prog 40 #[.int .i64 d.f1] W fun e w' => e = .returned (.tuple #[.int .i64 cc, .bool has]) ∧ Below W.heap.size W w') := fun W => ⟨by have h := (class_q d.f1 W).mono (R' := fun e w' => e = .returned (.tuple #[.int .i64 (clsR d.f1).1, .bool (clsR d.f1).2]) ∧ Below W.heap.size W w') (fun e w' ⟨h1, q, h2⟩ => ⟨h1, by subst h2; exact pw_below_drewN (Below.refl _ _) _⟩); rw [hcr] at h; exact h⟩
  have HE : Sh (accR m l d = (m, l, !(findR l d.f2).2.2.2)) := ⟨by unfold accR; rw [if_neg (by omega), if_neg (by omega), if_neg (by omega), if_neg (by omega), if_pos ⟨z0, y1⟩]⟩
  obtain ⟨t, ht⟩ : ∃ t : Int, t = if (findL d.f2 l).isSome = true then (cntL d.f2 l : Int) else -1 := ⟨_, rfl⟩
  have HE : Sh (accR m l d = (m, l, decide (t < 0))) := ⟨by
    rw [HE.out, ht]; unfold findR
    cases findL d.f2 l with
    | none => rfl
    | some x => simp only [Option.isSome, if_true]; rw [decide_eq_false (show ¬ ((cntL d.f2 l : Int) < 0) by omega)]; rfl⟩
  have HQ3 : ∀ W, Below w.heap.size w W → Sh (Calls Try.prog 48 #[.slice A l.length c, .int .i64 d.f2] W fun e w' => e = .returned (.int .i64 t) ∧ Below W.heap.size W w') := fun W hW => ⟨by obtain ⟨k, hk⟩ := (rfind_ev hrt hl d.f2).rounds; rw [← ht] at hk; exact (rickyardref13_find.calls k A c l d.f2 t W (Kd.F_now (Kd.F_below hF hW)) hc hk).mono (fun e w' ⟨h1, h2⟩ => ⟨h1, h2.below⟩)⟩
  clear ht
  have bb0 : (d.f0 == 1) = false := by simp [z0]
  have bb1 : (d.f0 == 2) = true := by simpa using z0
  have bb2 : (d.f3 == 0) = false := by simpa using y0
  have bb3 : (d.f3 == 2) = true := by simpa using y1
  clear hcr hF hm hrt z0 y0 y1
  have q20 := HA0.c20; have q21 := HA0.c21; have q30 := HA0.c30; have q31 := HA0.c31; have q32 := HA0.c32; have q33 := HA0.c33; have q40 := HA0.c40; have q41 := HA0.c41; have q4f := HA0.f40; have q4g := HA0.f41
  go_enter Try.func47, Try.ntmps47
  go_wp2_with fail
  (with_reducible refine (HQ _).out.mono ?_); rintro e w2 ⟨rfl, hd⟩; have HA1 := HA0.below hd; clear hd; clear q20 q21 q30 q31 q32 q33 q40 q41 q4f q4g; have q20 := HA1.c20; have q21 := HA1.c21; have q30 := HA1.c30; have q31 := HA1.c31; have q32 := HA1.c32; have q33 := HA1.c33; have q40 := HA1.c40; have q41 := HA1.c41; have q4f := HA1.f40; have q4g := HA1.f41; clear HA0
  go_wp2
  go_region_held3 (fun W => W.cell? ⟨w.heap.size, 0, none⟩ = some (.int .i64 m) ∧ W.cell? ⟨w.heap.size, 1, none⟩ = some (.slice A l.length c) ∧ W.cell? ⟨w.heap.size + 1, 2, none⟩ = some (.int .i64 d.f2)) (first | exact ⟨(blk_cell (blk_far (blk_far HA4.b2 (by dsimp only; omega) _) (by dsimp only; omega) _) 0).trans rfl, (blk_cell (blk_far (blk_far HA4.b2 (by dsimp only; omega) _) (by dsimp only; omega) _) 1).trans rfl, (blk_cell (blk_far (blk_far HA4.b3 (by dsimp only; omega) _) (by dsimp only; omega) _) 2).trans rfl⟩ | exact ⟨HA4.c20, HA4.c21, HA4.c32⟩ | exact ⟨(blk_cell (blk_far (blk_far HA1.b2 (by dsimp only; omega) _) (by dsimp only; omega) _) 0).trans rfl, (blk_cell (blk_far (blk_far HA1.b2 (by dsimp only; omega) _) (by dsimp only; omega) _) 1).trans rfl, (blk_cell (blk_far (blk_far HA1.b3 (by dsimp only; omega) _) (by dsimp only; omega) _) 2).trans rfl⟩ | exact ⟨HA1.c20, HA1.c21, HA1.c32⟩) (first | (go_at_call 48; (with_reducible refine (HQ3 _ (HA1.below (Below.refl _ _).drew).bl).out.mono ?_); rintro e w4 ⟨rfl, hd⟩; have HA4 := (HA1.below (Below.refl _ _).drew).below hd; clear hd; clear q20 q21 q30 q31 q32 q33 q40 q41 q4f q4g; have q20 := HA4.c20; have q21 := HA4.c21; have q30 := HA4.c30; have q31 := HA4.c31; have q32 := HA4.c32; have q33 := HA4.c33; have q40 := HA4.c40; have q41 := HA4.c41; have q4f := HA4.f40; have q4g := HA4.f41))
  all_goals go_wp2
  all_goals (refine bodyPost_ret (v := .tuple #[.agg #[.int .i64 m, .slice A l.length c], .bool (decide (t < 0))]) (by simp [HA4.p0, HA4.p1, results, Try.results47, go_sem]) rfl ?_)
  all_goals (exact after_same HF.out hc HE.out HA4.bl _ _)
set_option maxRecDepth 100000 in
set_option maxHeartbeats 4000000 in
theorem accept_2x (m : Int) (A : Option Addr) (c : Nat) (l : List Lv) (d : De) (ok : Nat → Prop) (w : World) (hm : mOk m) (hrt : rtL m l) (hl : l.length ≤ 1000) (hF : Kd.F k59 w ok A l.length l) (hc : l.length ≤ c) (z0 : d.f0 = 2) (y0 : ¬ d.f3 = 0) (y1 : ¬ d.f3 = 2) :
    Calls Try.prog 47 #[.agg #[.int .i64 m, .slice A l.length c], .agg #[.int .i64 d.f0, .int .i64 d.f1, .int .i64 d.f2, .int .i64 d.f3]] w (AfterPost m l d ok w) := by
  have hu := Try.underlying59
  have hu2 := Try.underlying43
  have hu3 := Try.underlying38
  have HA0 := AX.new w m A l.length c d
  have HF := Sh.mk hF
  obtain ⟨cc, has, hcr⟩ : ∃ cc has, clsR d.f1 = (cc, has) := ⟨_, _, rfl⟩
  have HQ : ∀ W, Sh (Calls Try.prog 40 #[.int .i64 d.f1] W fun e w' => e = .returned (.tuple #[.int .i64 cc, .bool has]) ∧ Below W.heap.size W w') := fun W => ⟨by have h := (class_q d.f1 W).mono (R' := fun e w' => e = .returned (.tuple #[.int .i64 (clsR d.f1).1, .bool (clsR d.f1).2]) ∧ Below W.heap.size W w') (fun e w' ⟨h1, q, h2⟩ => ⟨h1, by subst h2; exact pw_below_drewN (Below.refl _ _) _⟩); rw [hcr] at h; exact h⟩
  have HE : Sh (accR m l d = (m, l, false)) := ⟨by unfold accR; rw [if_neg (by omega), if_neg (by omega), if_neg (by omega), if_neg (by omega), if_neg (by omega)]⟩
  have bb0 : (d.f0 == 1) = false := by simp [z0]
  have bb1 : (d.f0 == 2) = true := by simpa using z0
  have bb2 : (d.f3 == 0) = false := by simpa using y0
  have bb3 : (d.f3 == 2) = false := by simpa using y1
  clear hcr hF hm hrt z0 y0 y1
  have q20 := HA0.c20; have q21 := HA0.c21; have q30 := HA0.c30; have q31 := HA0.c31; have q32 := HA0.c32; have q33 := HA0.c33; have q40 := HA0.c40; have q41 := HA0.c41; have q4f := HA0.f40; have q4g := HA0.f41
  go_enter Try.func47, Try.ntmps47
  go_wp2_with fail
  (with_reducible refine (HQ _).out.mono ?_); rintro e w2 ⟨rfl, hd⟩; have HA1 := HA0.below hd; clear hd; clear q20 q21 q30 q31 q32 q33 q40 q41 q4f q4g; have q20 := HA1.c20; have q21 := HA1.c21; have q30 := HA1.c30; have q31 := HA1.c31; have q32 := HA1.c32; have q33 := HA1.c33; have q40 := HA1.c40; have q41 := HA1.c41; have q4f := HA1.f40; have q4g := HA1.f41; clear HA0
  go_wp2
  refine bodyPost_ret (v := .tuple #[.agg #[.int .i64 m, .slice A l.length c], .bool (false)]) (by simp [HA1.p0, HA1.p1, results, Try.results47, go_sem]) rfl ?_
  exact after_same HF.out hc HE.out HA1.bl _ _
set_option maxRecDepth 100000 in
set_option maxHeartbeats 4000000 in
theorem accept_xx (m : Int) (A : Option Addr) (c : Nat) (l : List Lv) (d : De) (ok : Nat → Prop) (w : World) (hm : mOk m) (hrt : rtL m l) (hl : l.length ≤ 1000) (hF : Kd.F k59 w ok A l.length l) (hc : l.length ≤ c) (z1 : ¬ d.f0 = 1) (z2 : ¬ d.f0 = 2) :
    Calls Try.prog 47 #[.agg #[.int .i64 m, .slice A l.length c], .agg #[.int .i64 d.f0, .int .i64 d.f1, .int .i64 d.f2, .int .i64 d.f3]] w (AfterPost m l d ok w) := by
  have hu := Try.underlying59
  have hu2 := Try.underlying43
  have hu3 := Try.underlying38
  have HA0 := AX.new w m A l.length c d
  have HF := Sh.mk hF
  obtain ⟨cc, has, hcr⟩ : ∃ cc has, clsR d.f1 = (cc, has) := ⟨_, _, rfl⟩
  have HQ : ∀ W, Sh (Calls Try.prog 40 #[.int .i64 d.f1] W fun e w' => e = .returned (.tuple #[.int .i64 cc, .bool has]) ∧ Below W.heap.size W w') := fun W => ⟨by have h := (class_q d.f1 W).mono (R' := fun e w' => e = .returned (.tuple #[.int .i64 (clsR d.f1).1, .bool (clsR d.f1).2]) ∧ Below W.heap.size W w') (fun e w' ⟨h1, q, h2⟩ => ⟨h1, by subst h2; exact pw_below_drewN (Below.refl _ _) _⟩); rw [hcr] at h; exact h⟩
  have HE : Sh (accR m l d = (m, l, false)) := ⟨by unfold accR; rw [if_neg (by omega), if_neg (by omega), if_neg (by omega), if_neg (by omega), if_neg (by omega)]⟩
  have bb0 : (d.f0 == 1) = false := by simpa using z1
  have bb1 : (d.f0 == 2) = false := by simpa using z2
  clear hcr hF hm hrt z1 z2
  have q20 := HA0.c20; have q21 := HA0.c21; have q30 := HA0.c30; have q31 := HA0.c31; have q32 := HA0.c32; have q33 := HA0.c33; have q40 := HA0.c40; have q41 := HA0.c41; have q4f := HA0.f40; have q4g := HA0.f41
  go_enter Try.func47, Try.ntmps47
  go_wp2_with fail
  (with_reducible refine (HQ _).out.mono ?_); rintro e w2 ⟨rfl, hd⟩; have HA1 := HA0.below hd; clear hd; clear q20 q21 q30 q31 q32 q33 q40 q41 q4f q4g; have q20 := HA1.c20; have q21 := HA1.c21; have q30 := HA1.c30; have q31 := HA1.c31; have q32 := HA1.c32; have q33 := HA1.c33; have q40 := HA1.c40; have q41 := HA1.c41; have q4f := HA1.f40; have q4g := HA1.f41; clear HA0
  go_wp2
  refine bodyPost_ret (v := .tuple #[.agg #[.int .i64 m, .slice A l.length c], .bool (false)]) (by simp [HA1.p0, HA1.p1, results, Try.results47, go_sem]) rfl ?_
  exact after_same HF.out hc HE.out HA1.bl _ _
theorem accept_any (m : Int) (A : Option Addr) (c : Nat) (l : List Lv) (d : De) (ok : Nat → Prop) (w : World) (hm : mOk m) (hrt : rtL m l) (hl : l.length ≤ 1000) (hF : Kd.F k59 w ok A l.length l) (hc : l.length ≤ c) :
    Calls Try.prog 47 #[.agg #[.int .i64 m, .slice A l.length c], .agg #[.int .i64 d.f0, .int .i64 d.f1, .int .i64 d.f2, .int .i64 d.f3]] w (AfterPost m l d ok w) := by
  by_cases z1 : d.f0 = 1
  · by_cases y0 : d.f3 = 0
    · exact accept_10 m A c l d ok w hm hrt hl hF hc z1 y0
    · by_cases y1 : d.f3 = 3
      · exact accept_13 m A c l d ok w hm hrt hl hF hc z1 y0 y1
      · by_cases y2 : d.f3 = 1
        · exact accept_11 m A c l d ok w hm hrt hl hF hc z1 y0 y1 y2
        · exact accept_1x m A c l d ok w hm hrt hl hF hc z1 y0 y1 y2
  · by_cases z2 : d.f0 = 2
    · by_cases y0 : d.f3 = 0
      · exact accept_20 m A c l d ok w hm hrt hl hF hc z2 y0
      · by_cases y1 : d.f3 = 2
        · exact accept_22 m A c l d ok w hm hrt hl hF hc z2 y0 y1
        · exact accept_2x m A c l d ok w hm hrt hl hF hc z2 y0 y1
    · exact accept_xx m A c l d ok w hm hrt hl hF hc z1 z2
end Go.Proofs.Ytpddppipjlagfaa
