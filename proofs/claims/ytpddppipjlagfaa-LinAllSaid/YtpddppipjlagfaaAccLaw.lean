/- Several texts in one: After, Accepts, RAccepts, AccCalls, AccLaw. -/
import Derived.Test.YtpddppipjlagfaaModelCalls
import Derived.Test.YtpddppipjlagfaaPrx19
import Derived.Test.YtpddppipjlagfaaBase
import Derived.Deep.RegionHeld3
import Derived.Test.YtpddppipjlagfaaPrx3
/- model.after, and the document's accept: contracts that read. No statement is proved here. -/
namespace Go.Proofs.Ytpddppipjlagfaa
set_option linter.unusedVariables false
set_option linter.unusedSimpArgs false
open Go.RowKit Go.Proofs.YtpddppipjlagfaaW.PrintWords Go.Proofs.YtpddppipjlagfaaW.PrintLast Go.Proofs.YtpddppipjlagfaaW.PrintMore Pr Go.Proofs.Ytpddppipjlagfaa.Pure

/-- The parameters' boxes, and a result's cells. -/
structure AX (w : World) (m : Int) (A : Option Addr) (n c : Nat) (d : De) (W : World) : Prop where
  b2 : W.heap[w.heap.size]? = some (.cells #[.int .i64 m, .slice A n c] 43 (0, 0))
  b3 : W.heap[w.heap.size + 1]? = some (.cells #[.int .i64 d.f0, .int .i64 d.f1, .int .i64 d.f2, .int .i64 d.f3] 38 (0, 0))
  b4 : W.heap[w.heap.size + 2]? = some (.cells #[.int .i64 0, .slice none 0 0] 43 (0, 0))
  bl : Below w.heap.size w W
section
variable {w : World} {m : Int} {A : Option Addr} {n c : Nat} {d : De} {W W' : World}
theorem AX.new (w : World) (m : Int) (A : Option Addr) (n c : Nat) (d : De) : AX w m A n c d (((w.alloc (.cells #[.int .i64 m, .slice A n c] 43)).alloc (.cells #[.int .i64 d.f0, .int .i64 d.f1, .int .i64 d.f2, .int .i64 d.f3] 38)).alloc (.cells #[.int .i64 0, .slice none 0 0] 43)) where
  b2 := blk_alloc (blk_alloc (blk_new w _) _) _
  b3 := blk_alloc (by have h := blk_new (w.alloc (.cells #[.int .i64 m, .slice A n c] 43)) (.cells #[.int .i64 d.f0, .int .i64 d.f1, .int .i64 d.f2, .int .i64 d.f3] 38); simpa using h) _
  b4 := by have h := blk_new ((w.alloc (.cells #[.int .i64 m, .slice A n c] 43)).alloc (.cells #[.int .i64 d.f0, .int .i64 d.f1, .int .i64 d.f2, .int .i64 d.f3] 38)) (.cells #[.int .i64 0, .slice none 0 0] 43); simpa using h
  bl := below_alloc (below_alloc (below_alloc (Below.refl _ _) _) _) _
theorem AX.below (x : AX w m A n c d W) (hd : Below W.heap.size W W') : AX w m A n c d W' :=
  ⟨blk_below x.b2 hd, blk_below x.b3 hd, blk_below x.b4 hd, below_step x.bl hd⟩
theorem AX.c20 (x : AX w m A n c d W) : W.cell? ⟨w.heap.size, 0, none⟩ = some (.int .i64 m) := (blk_cell x.b2 0).trans rfl
theorem AX.c21 (x : AX w m A n c d W) : W.cell? ⟨w.heap.size, 1, none⟩ = some (.slice A n c) := (blk_cell x.b2 1).trans rfl
theorem AX.c30 (x : AX w m A n c d W) : W.cell? ⟨w.heap.size + 1, 0, none⟩ = some (.int .i64 d.f0) := (blk_cell x.b3 0).trans rfl
theorem AX.c31 (x : AX w m A n c d W) : W.cell? ⟨w.heap.size + 1, 1, none⟩ = some (.int .i64 d.f1) := (blk_cell x.b3 1).trans rfl
theorem AX.c32 (x : AX w m A n c d W) : W.cell? ⟨w.heap.size + 1, 2, none⟩ = some (.int .i64 d.f2) := (blk_cell x.b3 2).trans rfl
theorem AX.c33 (x : AX w m A n c d W) : W.cell? ⟨w.heap.size + 1, 3, none⟩ = some (.int .i64 d.f3) := (blk_cell x.b3 3).trans rfl
theorem AX.c40 (x : AX w m A n c d W) : W.cell? ⟨w.heap.size + 2, 0, none⟩ = some (.int .i64 0) := (blk_cell x.b4 0).trans rfl
theorem AX.c41 (x : AX w m A n c d W) : W.cell? ⟨w.heap.size + 2, 1, none⟩ = some (.slice none 0 0) := (blk_cell x.b4 1).trans rfl
theorem AX.f40 (x : AX w m A n c d W) : W.frozen? ⟨w.heap.size + 2, 0, none⟩ = false := blk_frozen x.b4 0
theorem AX.f41 (x : AX w m A n c d W) : W.frozen? ⟨w.heap.size + 2, 1, none⟩ = false := blk_frozen x.b4 1
theorem AX.p0 (r : AX w m A n c d W) (x : Value) : (W.setCell ⟨w.heap.size + 2, 0, none⟩ x).cell? ⟨w.heap.size + 2, 0, none⟩ = some x := by rw [blk_cell (blk_set r.b4 0 x) 0]; rfl
theorem AX.p1 (r : AX w m A n c d W) (x y : Value) : ((W.setCell ⟨w.heap.size + 2, 0, none⟩ x).setCell ⟨w.heap.size + 2, 1, none⟩ y).cell? ⟨w.heap.size + 2, 1, none⟩ = some y := by rw [blk_cell (blk_set (blk_set r.b4 0 x) 1 y) 1]; rfl
end
def AfterPost (m : Int) (l : List Lv) (d : De) (ok : Nat → Prop) (w : World) (e : Ending) (w' : World) : Prop := ∃ (A' : Option Addr) (c' : Nat), e = .returned (.tuple #[.agg #[.int .i64 (accR m l d).1, .slice A' (accR m l d).2.1.length c'], .bool (accR m l d).2.2]) ∧ (accR m l d).2.1.length ≤ c' ∧ Kd.F k59 w' (fun k => ok k ∨ w.heap.size ≤ k) A' (accR m l d).2.1.length (accR m l d).2.1 ∧ Below w.heap.size w w'
/-- The same list is handed back. -/
theorem after_same {m : Int} {A : Option Addr} {c : Nat} {l : List Lv} {d : De} {ok : Nat → Prop} {w W : World} {b : Bool} (hF : Kd.F k59 w ok A l.length l) (hc : l.length ≤ c) (h : accR m l d = (m, l, b)) (hB : Below w.heap.size w W) (x y : Value) :
    AfterPost m l d ok w (.returned (.tuple #[.agg #[.int .i64 m, .slice A l.length c], .bool b])) ((W.setCell ⟨w.heap.size + 2, 0, none⟩ x).setCell ⟨w.heap.size + 2, 1, none⟩ y) := by
  unfold AfterPost
  rw [h]
  exact ⟨A, c, rfl, hc, Kd.F_mono (Kd.F_far (p := ⟨w.heap.size + 2, 1, none⟩) (Kd.F_far (p := ⟨w.heap.size + 2, 0, none⟩) (Kd.F_old hF hB) (fun k hk => by have := hk.2; show k ≠ w.heap.size + 2; omega) _) (fun k hk => by have := hk.2; show k ≠ w.heap.size + 2; omega) _) (fun k hk => .inl hk.1), below_set (below_set hB (by omega)) (by omega)⟩
/-- A new list is handed back. -/
theorem after_new {m r1 : Int} {l r2 : List Lv} {d : De} {ok : Nat → Prop} {w W W2 : World} {b : Bool} {A2 : Option Addr} {c2 : Nat} (h : accR m l d = (r1, r2, b)) (hB : Below w.heap.size w W2) (hW : w.heap.size + 2 < W.heap.size) (hr : Kd.R k59 59 W2 W.heap.size (fun _ => True) (.slice A2 r2.length c2) r2) (x y : Value) :
    AfterPost m l d ok w (.returned (.tuple #[.agg #[.int .i64 r1, .slice A2 r2.length c2], .bool b])) ((W2.setCell ⟨w.heap.size + 2, 0, none⟩ x).setCell ⟨w.heap.size + 2, 1, none⟩ y) := by
  unfold AfterPost
  rw [h]
  have h1 := Kd.R_bound hr
  have h2 : Kd.F k59 W2 (fun k => W.heap.size ≤ k) A2 r2.length r2 := fun W' hW' => (Kd.R_reads' (Kd.R_step (w1 := W') h1 (fun k hk hlt => hW' k hk.2.1 hlt))).2.2
  exact ⟨A2, c2, rfl, (Kd.R_reads' hr).2.1, Kd.F_mono (Kd.F_far (p := ⟨w.heap.size + 2, 1, none⟩) (Kd.F_far (p := ⟨w.heap.size + 2, 0, none⟩) h2 (fun k hk => by show k ≠ w.heap.size + 2; omega) _) (fun k hk => by show k ≠ w.heap.size + 2; omega) _) (fun k hk => .inr (by omega)), below_set (below_set hB (by omega)) (by omega)⟩
set_option maxRecDepth 100000 in
set_option maxHeartbeats 4000000 in
theorem after_10 (m : Int) (A : Option Addr) (c : Nat) (l : List Lv) (d : De) (ok : Nat → Prop) (w : World) (hm : mOk m) (hrt : rtL m l) (hl : l.length ≤ 1000) (hF : Kd.F k59 w ok A l.length l) (hc : l.length ≤ c) (z0 : d.f0 = 1) (y0 : d.f3 = 0) :
    Calls Try.prog 30 #[.agg #[.int .i64 m, .slice A l.length c], .agg #[.int .i64 d.f0, .int .i64 d.f1, .int .i64 d.f2, .int .i64 d.f3]] w (AfterPost m l d ok w) := by
  have hu := Try.underlying59
  have hu2 := Try.underlying43
  have hu3 := Try.underlying38
  have HA0 := AX.new w m A l.length c d
  have HF := Sh.mk hF
  obtain ⟨cc, has, hcr⟩ : ∃ cc has, clsR d.f1 = (cc, has) := ⟨_, _, rfl⟩
  have HQ : ∀ W, Sh (Calls Try.prog 42 #[.int .i64 d.f1] W fun e w' => e = .returned (.tuple #[.int .i64 cc, .bool has]) ∧ Below W.heap.size W w') := fun W => ⟨by obtain ⟨k, hk⟩ := (class_ev d.f1).1.rounds; have h := size_Class.calls k d.f1 (clsR d.f1).1 (clsR d.f1).2 W hk; rw [hcr] at h; exact h⟩
  obtain ⟨y0_, y1_, y2_, live, hfr⟩ : ∃ a b c e, findR l d.f2 = (a, b, c, e) := ⟨_, _, _, _, rfl⟩
  have HQ2 : ∀ W, Below w.heap.size w W → Sh (Calls Try.prog 43 #[.agg #[.int .i64 m, .slice A l.length c], .int .i64 d.f2] W fun e w' => e = .returned (.tuple #[.agg #[.int .i64 y0_, .int .i64 y1_, .int .i64 y2_], .bool live]) ∧ Below W.heap.size W w') := fun W hW => ⟨model_Find.calls m A c l d.f2 y0_ y1_ y2_ live W (Kd.F_now (Kd.F_below hF hW)) hc (by rw [find_is hrt hl, hfr])⟩
  have HE : Sh (accR m l d = allocR m l d.f1 d.f2) := ⟨by unfold accR; rw [if_pos ⟨z0, y0⟩]⟩
  obtain ⟨r1, r2, r3, har⟩ : ∃ a b c, allocR m l d.f1 d.f2 = (a, b, c) := ⟨_, _, _, rfl⟩
  have HE := Sh.mk (HE.out.trans har)
  have HQ3 : ∀ W, Below w.heap.size w W → Sh (Calls Try.prog 44 #[.agg #[.int .i64 m, .slice A l.length c], .int .i64 d.f1, .int .i64 d.f2] W fun e w' => ∃ v1_ : Value, e = .returned (.tuple #[.agg #[.int .i64 r1, v1_], .bool r3]) ∧ Kd.R k59 59 w' W.heap.size (fun _ => True) v1_ r2 ∧ Below W.heap.size W w') := fun W hW => ⟨by obtain ⟨k, hk⟩ := (alloc_ev hm hrt hl d.f1 d.f2).rounds; exact model_Alloc.calls k m A c l d.f1 d.f2 r1 r2 r3 W (Kd.F_now (Kd.F_below hF hW)) hc (by rw [hk, har])⟩
  clear har
  have bb0 : (d.f0 == 1) = true := by simpa using z0
  have bb1 : (d.f0 == 2) = false := by simp [z0]
  have bb2 : (d.f3 == 0) = true := by simpa using y0
  clear hcr hF hm hrt hfr z0 y0
  have q20 := HA0.c20; have q21 := HA0.c21; have q30 := HA0.c30; have q31 := HA0.c31; have q32 := HA0.c32; have q33 := HA0.c33; have q40 := HA0.c40; have q41 := HA0.c41; have q4f := HA0.f40; have q4g := HA0.f41
  go_enter Try.func30, Try.ntmps30
  go_wp2_with fail
  (with_reducible refine (HQ _).out.mono ?_); rintro e w2 ⟨rfl, hd⟩; have HA1 := HA0.below hd; clear hd; clear q20 q21 q30 q31 q32 q33 q40 q41 q4f q4g; have q20 := HA1.c20; have q21 := HA1.c21; have q30 := HA1.c30; have q31 := HA1.c31; have q32 := HA1.c32; have q33 := HA1.c33; have q40 := HA1.c40; have q41 := HA1.c41; have q4f := HA1.f40; have q4g := HA1.f41; clear HA0
  go_wp2_with fail
  (with_reducible refine (HQ2 _ HA1.bl).out.mono ?_); rintro e w3 ⟨rfl, hd⟩; have HA2 := HA1.below hd; clear hd; clear q20 q21 q30 q31 q32 q33 q40 q41 q4f q4g; have HA3 := HA2.below (below_alloc (Below.refl _ _) (.cells #[.int .i64 y0_, .int .i64 y1_, .int .i64 y2_] 59)); have q20 := HA3.c20; have q21 := HA3.c21; have q30 := HA3.c30; have q31 := HA3.c31; have q32 := HA3.c32; have q33 := HA3.c33; have q40 := HA3.c40; have q41 := HA3.c41; have q4f := HA3.f40; have q4g := HA3.f41; clear HA1
  go_wp2_with fail
  have hlt := Sh.mk (blk_lt HA3.b4)
  (with_reducible refine (HQ3 _ HA3.bl).out.mono ?_); rintro e w4 ⟨v1, rfl, hv, hd⟩; have HA4 := HA3.below hd; clear hd; obtain ⟨A2, c2, e2⟩ := Kd.R_slice hv; subst e2; have HV := Sh.mk hv; clear hv; clear q20 q21 q30 q31 q32 q33 q40 q41 q4f q4g; have q20 := HA4.c20; have q21 := HA4.c21; have q30 := HA4.c30; have q31 := HA4.c31; have q32 := HA4.c32; have q33 := HA4.c33; have q40 := HA4.c40; have q41 := HA4.c41; have q4f := HA4.f40; have q4g := HA4.f41
  go_wp2
  refine bodyPost_ret (v := .tuple #[.agg #[.int .i64 r1, .slice A2 r2.length c2], .bool r3]) (by simp [HA4.p0, HA4.p1, results, Try.results30, go_sem]) rfl ?_
  exact after_new HE.out HA4.bl hlt.out HV.out _ _
set_option maxRecDepth 100000 in
set_option maxHeartbeats 4000000 in
theorem after_13 (m : Int) (A : Option Addr) (c : Nat) (l : List Lv) (d : De) (ok : Nat → Prop) (w : World) (hm : mOk m) (hrt : rtL m l) (hl : l.length ≤ 1000) (hF : Kd.F k59 w ok A l.length l) (hc : l.length ≤ c) (z0 : d.f0 = 1) (y0 : ¬ d.f3 = 0) (y1 : d.f3 = 3) :
    Calls Try.prog 30 #[.agg #[.int .i64 m, .slice A l.length c], .agg #[.int .i64 d.f0, .int .i64 d.f1, .int .i64 d.f2, .int .i64 d.f3]] w (AfterPost m l d ok w) := by
  have hu := Try.underlying59
  have hu2 := Try.underlying43
  have hu3 := Try.underlying38
  have HA0 := AX.new w m A l.length c d
  have HF := Sh.mk hF
  obtain ⟨cc, has, hcr⟩ : ∃ cc has, clsR d.f1 = (cc, has) := ⟨_, _, rfl⟩
  have HQ : ∀ W, Sh (Calls Try.prog 42 #[.int .i64 d.f1] W fun e w' => e = .returned (.tuple #[.int .i64 cc, .bool has]) ∧ Below W.heap.size W w') := fun W => ⟨by obtain ⟨k, hk⟩ := (class_ev d.f1).1.rounds; have h := size_Class.calls k d.f1 (clsR d.f1).1 (clsR d.f1).2 W hk; rw [hcr] at h; exact h⟩
  obtain ⟨y0_, y1_, y2_, live, hfr⟩ : ∃ a b c e, findR l d.f2 = (a, b, c, e) := ⟨_, _, _, _, rfl⟩
  have HQ2 : ∀ W, Below w.heap.size w W → Sh (Calls Try.prog 43 #[.agg #[.int .i64 m, .slice A l.length c], .int .i64 d.f2] W fun e w' => e = .returned (.tuple #[.agg #[.int .i64 y0_, .int .i64 y1_, .int .i64 y2_], .bool live]) ∧ Below W.heap.size W w') := fun W hW => ⟨model_Find.calls m A c l d.f2 y0_ y1_ y2_ live W (Kd.F_now (Kd.F_below hF hW)) hc (by rw [find_is hrt hl, hfr])⟩
  have HE : Sh (accR m l d = (m, l, has)) := ⟨by unfold accR; rw [if_neg (fun h => y0 h.2), if_pos ⟨z0, y1⟩, hcr]⟩
  have bb0 : (d.f0 == 1) = true := by simpa using z0
  have bb1 : (d.f0 == 2) = false := by simp [z0]
  have bb2 : (d.f3 == 0) = false := by simpa using y0
  have bb3 : (d.f3 == 3) = true := by simpa using y1
  clear hcr hF hm hrt hfr z0 y0 y1
  have q20 := HA0.c20; have q21 := HA0.c21; have q30 := HA0.c30; have q31 := HA0.c31; have q32 := HA0.c32; have q33 := HA0.c33; have q40 := HA0.c40; have q41 := HA0.c41; have q4f := HA0.f40; have q4g := HA0.f41
  go_enter Try.func30, Try.ntmps30
  go_wp2_with fail
  (with_reducible refine (HQ _).out.mono ?_); rintro e w2 ⟨rfl, hd⟩; have HA1 := HA0.below hd; clear hd; clear q20 q21 q30 q31 q32 q33 q40 q41 q4f q4g; have q20 := HA1.c20; have q21 := HA1.c21; have q30 := HA1.c30; have q31 := HA1.c31; have q32 := HA1.c32; have q33 := HA1.c33; have q40 := HA1.c40; have q41 := HA1.c41; have q4f := HA1.f40; have q4g := HA1.f41; clear HA0
  go_wp2_with fail
  (with_reducible refine (HQ2 _ HA1.bl).out.mono ?_); rintro e w3 ⟨rfl, hd⟩; have HA2 := HA1.below hd; clear hd; clear q20 q21 q30 q31 q32 q33 q40 q41 q4f q4g; have HA3 := HA2.below (below_alloc (Below.refl _ _) (.cells #[.int .i64 y0_, .int .i64 y1_, .int .i64 y2_] 59)); have q20 := HA3.c20; have q21 := HA3.c21; have q30 := HA3.c30; have q31 := HA3.c31; have q32 := HA3.c32; have q33 := HA3.c33; have q40 := HA3.c40; have q41 := HA3.c41; have q4f := HA3.f40; have q4g := HA3.f41; clear HA1
  go_wp2
  refine bodyPost_ret (v := .tuple #[.agg #[.int .i64 m, .slice A l.length c], .bool (has)]) (by simp [HA3.p0, HA3.p1, results, Try.results30, go_sem]) rfl ?_
  exact after_same HF.out hc HE.out HA3.bl _ _
set_option maxRecDepth 100000 in
set_option maxHeartbeats 4000000 in
theorem after_11 (m : Int) (A : Option Addr) (c : Nat) (l : List Lv) (d : De) (ok : Nat → Prop) (w : World) (hm : mOk m) (hrt : rtL m l) (hl : l.length ≤ 1000) (hF : Kd.F k59 w ok A l.length l) (hc : l.length ≤ c) (z0 : d.f0 = 1) (y0 : ¬ d.f3 = 0) (y1 : ¬ d.f3 = 3) (y2 : d.f3 = 1) :
    Calls Try.prog 30 #[.agg #[.int .i64 m, .slice A l.length c], .agg #[.int .i64 d.f0, .int .i64 d.f1, .int .i64 d.f2, .int .i64 d.f3]] w (AfterPost m l d ok w) := by
  have hu := Try.underlying59
  have hu2 := Try.underlying43
  have hu3 := Try.underlying38
  have HA0 := AX.new w m A l.length c d
  have HF := Sh.mk hF
  obtain ⟨cc, has, hcr⟩ : ∃ cc has, clsR d.f1 = (cc, has) := ⟨_, _, rfl⟩
  have HQ : ∀ W, Sh (Calls Try.prog 42 #[.int .i64 d.f1] W fun e w' => e = .returned (.tuple #[.int .i64 cc, .bool has]) ∧ Below W.heap.size W w') := fun W => ⟨by obtain ⟨k, hk⟩ := (class_ev d.f1).1.rounds; have h := size_Class.calls k d.f1 (clsR d.f1).1 (clsR d.f1).2 W hk; rw [hcr] at h; exact h⟩
  obtain ⟨y0_, y1_, y2_, live, hfr⟩ : ∃ a b c e, findR l d.f2 = (a, b, c, e) := ⟨_, _, _, _, rfl⟩
  have HQ2 : ∀ W, Below w.heap.size w W → Sh (Calls Try.prog 43 #[.agg #[.int .i64 m, .slice A l.length c], .int .i64 d.f2] W fun e w' => e = .returned (.tuple #[.agg #[.int .i64 y0_, .int .i64 y1_, .int .i64 y2_], .bool live]) ∧ Below W.heap.size W w') := fun W hW => ⟨model_Find.calls m A c l d.f2 y0_ y1_ y2_ live W (Kd.F_now (Kd.F_below hF hW)) hc (by rw [find_is hrt hl, hfr])⟩
  have HE : Sh (accR m l d = (m, l, !has)) := ⟨by unfold accR; rw [if_neg (fun h => y0 h.2), if_neg (fun h => y1 h.2), if_pos ⟨z0, y2⟩, hcr]⟩
  have bb0 : (d.f0 == 1) = true := by simpa using z0
  have bb1 : (d.f0 == 2) = false := by simp [z0]
  have bb2 : (d.f3 == 0) = false := by simpa using y0
  have bb3 : (d.f3 == 3) = false := by simpa using y1
  have bb4 : (d.f3 == 1) = true := by simpa using y2
  clear hcr hF hm hrt hfr z0 y0 y1 y2
  have q20 := HA0.c20; have q21 := HA0.c21; have q30 := HA0.c30; have q31 := HA0.c31; have q32 := HA0.c32; have q33 := HA0.c33; have q40 := HA0.c40; have q41 := HA0.c41; have q4f := HA0.f40; have q4g := HA0.f41
  go_enter Try.func30, Try.ntmps30
  go_wp2_with fail
  (with_reducible refine (HQ _).out.mono ?_); rintro e w2 ⟨rfl, hd⟩; have HA1 := HA0.below hd; clear hd; clear q20 q21 q30 q31 q32 q33 q40 q41 q4f q4g; have q20 := HA1.c20; have q21 := HA1.c21; have q30 := HA1.c30; have q31 := HA1.c31; have q32 := HA1.c32; have q33 := HA1.c33; have q40 := HA1.c40; have q41 := HA1.c41; have q4f := HA1.f40; have q4g := HA1.f41; clear HA0
  go_wp2_with fail
  (with_reducible refine (HQ2 _ HA1.bl).out.mono ?_); rintro e w3 ⟨rfl, hd⟩; have HA2 := HA1.below hd; clear hd; clear q20 q21 q30 q31 q32 q33 q40 q41 q4f q4g; have HA3 := HA2.below (below_alloc (Below.refl _ _) (.cells #[.int .i64 y0_, .int .i64 y1_, .int .i64 y2_] 59)); have q20 := HA3.c20; have q21 := HA3.c21; have q30 := HA3.c30; have q31 := HA3.c31; have q32 := HA3.c32; have q33 := HA3.c33; have q40 := HA3.c40; have q41 := HA3.c41; have q4f := HA3.f40; have q4g := HA3.f41; clear HA1
  go_wp2
  refine bodyPost_ret (v := .tuple #[.agg #[.int .i64 m, .slice A l.length c], .bool (!has)]) (by simp [HA3.p0, HA3.p1, results, Try.results30, go_sem]) rfl ?_
  exact after_same HF.out hc HE.out HA3.bl _ _
set_option maxRecDepth 100000 in
set_option maxHeartbeats 4000000 in
theorem after_1x (m : Int) (A : Option Addr) (c : Nat) (l : List Lv) (d : De) (ok : Nat → Prop) (w : World) (hm : mOk m) (hrt : rtL m l) (hl : l.length ≤ 1000) (hF : Kd.F k59 w ok A l.length l) (hc : l.length ≤ c) (z0 : d.f0 = 1) (y0 : ¬ d.f3 = 0) (y1 : ¬ d.f3 = 3) (y2 : ¬ d.f3 = 1) :
    Calls Try.prog 30 #[.agg #[.int .i64 m, .slice A l.length c], .agg #[.int .i64 d.f0, .int .i64 d.f1, .int .i64 d.f2, .int .i64 d.f3]] w (AfterPost m l d ok w) := by
  have hu := Try.underlying59
  have hu2 := Try.underlying43
  have hu3 := Try.underlying38
  have HA0 := AX.new w m A l.length c d
  have HF := Sh.mk hF
  obtain ⟨cc, has, hcr⟩ : ∃ cc has, clsR d.f1 = (cc, has) := ⟨_, _, rfl⟩
  have HQ : ∀ W, Sh (Calls Try.prog 42 #[.int .i64 d.f1] W fun e w' => e = .returned (.tuple #[.int .i64 cc, .bool has]) ∧ Below W.heap.size W w') := fun W => ⟨by obtain ⟨k, hk⟩ := (class_ev d.f1).1.rounds; have h := size_Class.calls k d.f1 (clsR d.f1).1 (clsR d.f1).2 W hk; rw [hcr] at h; exact h⟩
  obtain ⟨y0_, y1_, y2_, live, hfr⟩ : ∃ a b c e, findR l d.f2 = (a, b, c, e) := ⟨_, _, _, _, rfl⟩
  have HQ2 : ∀ W, Below w.heap.size w W → Sh (Calls Try.prog 43 #[.agg #[.int .i64 m, .slice A l.length c], .int .i64 d.f2] W fun e w' => e = .returned (.tuple #[.agg #[.int .i64 y0_, .int .i64 y1_, .int .i64 y2_], .bool live]) ∧ Below W.heap.size W w') := fun W hW => ⟨model_Find.calls m A c l d.f2 y0_ y1_ y2_ live W (Kd.F_now (Kd.F_below hF hW)) hc (by rw [find_is hrt hl, hfr])⟩
  have HE : Sh (accR m l d = (m, l, false)) := ⟨by unfold accR; rw [if_neg (fun h => y0 h.2), if_neg (fun h => y1 h.2), if_neg (fun h => y2 h.2), if_neg (by omega), if_neg (by omega)]⟩
  have bb0 : (d.f0 == 1) = true := by simpa using z0
  have bb1 : (d.f0 == 2) = false := by simp [z0]
  have bb2 : (d.f3 == 0) = false := by simpa using y0
  have bb3 : (d.f3 == 3) = false := by simpa using y1
  have bb4 : (d.f3 == 1) = false := by simpa using y2
  clear hcr hF hm hrt hfr z0 y0 y1 y2
  have q20 := HA0.c20; have q21 := HA0.c21; have q30 := HA0.c30; have q31 := HA0.c31; have q32 := HA0.c32; have q33 := HA0.c33; have q40 := HA0.c40; have q41 := HA0.c41; have q4f := HA0.f40; have q4g := HA0.f41
  go_enter Try.func30, Try.ntmps30
  go_wp2_with fail
  (with_reducible refine (HQ _).out.mono ?_); rintro e w2 ⟨rfl, hd⟩; have HA1 := HA0.below hd; clear hd; clear q20 q21 q30 q31 q32 q33 q40 q41 q4f q4g; have q20 := HA1.c20; have q21 := HA1.c21; have q30 := HA1.c30; have q31 := HA1.c31; have q32 := HA1.c32; have q33 := HA1.c33; have q40 := HA1.c40; have q41 := HA1.c41; have q4f := HA1.f40; have q4g := HA1.f41; clear HA0
  go_wp2_with fail
  (with_reducible refine (HQ2 _ HA1.bl).out.mono ?_); rintro e w3 ⟨rfl, hd⟩; have HA2 := HA1.below hd; clear hd; clear q20 q21 q30 q31 q32 q33 q40 q41 q4f q4g; have HA3 := HA2.below (below_alloc (Below.refl _ _) (.cells #[.int .i64 y0_, .int .i64 y1_, .int .i64 y2_] 59)); have q20 := HA3.c20; have q21 := HA3.c21; have q30 := HA3.c30; have q31 := HA3.c31; have q32 := HA3.c32; have q33 := HA3.c33; have q40 := HA3.c40; have q41 := HA3.c41; have q4f := HA3.f40; have q4g := HA3.f41; clear HA1
  go_wp2
  refine bodyPost_ret (v := .tuple #[.agg #[.int .i64 m, .slice A l.length c], .bool (false)]) (by simp [HA3.p0, HA3.p1, results, Try.results30, go_sem]) rfl ?_
  exact after_same HF.out hc HE.out HA3.bl _ _
set_option maxRecDepth 100000 in
set_option maxHeartbeats 4000000 in
theorem after_20 (m : Int) (A : Option Addr) (c : Nat) (l : List Lv) (d : De) (ok : Nat → Prop) (w : World) (hm : mOk m) (hrt : rtL m l) (hl : l.length ≤ 1000) (hF : Kd.F k59 w ok A l.length l) (hc : l.length ≤ c) (z0 : d.f0 = 2) (y0 : d.f3 = 0) :
    Calls Try.prog 30 #[.agg #[.int .i64 m, .slice A l.length c], .agg #[.int .i64 d.f0, .int .i64 d.f1, .int .i64 d.f2, .int .i64 d.f3]] w (AfterPost m l d ok w) := by
  have hu := Try.underlying59
  have hu2 := Try.underlying43
  have hu3 := Try.underlying38
  have HA0 := AX.new w m A l.length c d
  have HF := Sh.mk hF
  obtain ⟨cc, has, hcr⟩ : ∃ cc has, clsR d.f1 = (cc, has) := ⟨_, _, rfl⟩
  have HQ : ∀ W, Sh (Calls Try.prog 42 #[.int .i64 d.f1] W fun e w' => e = .returned (.tuple #[.int .i64 cc, .bool has]) ∧ Below W.heap.size W w') := fun W => ⟨by obtain ⟨k, hk⟩ := (class_ev d.f1).1.rounds; have h := size_Class.calls k d.f1 (clsR d.f1).1 (clsR d.f1).2 W hk; rw [hcr] at h; exact h⟩
  obtain ⟨y0_, y1_, y2_, live, hfr⟩ : ∃ a b c e, findR l d.f2 = (a, b, c, e) := ⟨_, _, _, _, rfl⟩
  have HQ2 : ∀ W, Below w.heap.size w W → Sh (Calls Try.prog 43 #[.agg #[.int .i64 m, .slice A l.length c], .int .i64 d.f2] W fun e w' => e = .returned (.tuple #[.agg #[.int .i64 y0_, .int .i64 y1_, .int .i64 y2_], .bool live]) ∧ Below W.heap.size W w') := fun W hW => ⟨model_Find.calls m A c l d.f2 y0_ y1_ y2_ live W (Kd.F_now (Kd.F_below hF hW)) hc (by rw [find_is hrt hl, hfr])⟩
  have HE : Sh (accR m l d = ((freeR m l d.f2).1, (freeR m l d.f2).2.1, (freeR m l d.f2).2.2 == 0)) := ⟨by unfold accR; rw [if_neg (by omega), if_neg (by omega), if_neg (by omega), if_pos ⟨z0, y0⟩]⟩
  obtain ⟨r1, r2, r3, har⟩ : ∃ a b c, freeR m l d.f2 = (a, b, c) := ⟨_, _, _, rfl⟩
  have HE : Sh (accR m l d = (r1, r2, r3 == 0)) := ⟨by rw [HE.out, har]⟩
  have HQ3 : ∀ W, Below w.heap.size w W → Sh (Calls Try.prog 45 #[.agg #[.int .i64 m, .slice A l.length c], .int .i64 d.f2] W fun e w' => ∃ v1_ : Value, e = .returned (.tuple #[.agg #[.int .i64 r1, v1_], .int .i64 r3]) ∧ Kd.R k59 59 w' W.heap.size (fun _ => True) v1_ r2 ∧ Below W.heap.size W w') := fun W hW => ⟨model_Free.calls m A c l d.f2 r1 r2 r3 W (Kd.F_now (Kd.F_below hF hW)) hc (by rw [free_is hrt hl, har])⟩
  clear har
  have bb0 : (d.f0 == 1) = false := by simp [z0]
  have bb1 : (d.f0 == 2) = true := by simpa using z0
  have bb2 : (d.f3 == 0) = true := by simpa using y0
  clear hcr hF hm hrt hfr z0 y0
  have q20 := HA0.c20; have q21 := HA0.c21; have q30 := HA0.c30; have q31 := HA0.c31; have q32 := HA0.c32; have q33 := HA0.c33; have q40 := HA0.c40; have q41 := HA0.c41; have q4f := HA0.f40; have q4g := HA0.f41
  go_enter Try.func30, Try.ntmps30
  go_wp2_with fail
  (with_reducible refine (HQ _).out.mono ?_); rintro e w2 ⟨rfl, hd⟩; have HA1 := HA0.below hd; clear hd; clear q20 q21 q30 q31 q32 q33 q40 q41 q4f q4g; have q20 := HA1.c20; have q21 := HA1.c21; have q30 := HA1.c30; have q31 := HA1.c31; have q32 := HA1.c32; have q33 := HA1.c33; have q40 := HA1.c40; have q41 := HA1.c41; have q4f := HA1.f40; have q4g := HA1.f41; clear HA0
  go_wp2_with fail
  (with_reducible refine (HQ2 _ HA1.bl).out.mono ?_); rintro e w3 ⟨rfl, hd⟩; have HA2 := HA1.below hd; clear hd; clear q20 q21 q30 q31 q32 q33 q40 q41 q4f q4g; have HA3 := HA2.below (below_alloc (Below.refl _ _) (.cells #[.int .i64 y0_, .int .i64 y1_, .int .i64 y2_] 59)); have q20 := HA3.c20; have q21 := HA3.c21; have q30 := HA3.c30; have q31 := HA3.c31; have q32 := HA3.c32; have q33 := HA3.c33; have q40 := HA3.c40; have q41 := HA3.c41; have q4f := HA3.f40; have q4g := HA3.f41; clear HA1
  go_wp2_with fail
  have hlt := Sh.mk (blk_lt HA3.b4)
  (with_reducible refine (HQ3 _ HA3.bl).out.mono ?_); rintro e w4 ⟨v1, rfl, hv, hd⟩; have HA4 := HA3.below hd; clear hd; obtain ⟨A2, c2, e2⟩ := Kd.R_slice hv; subst e2; have HV := Sh.mk hv; clear hv; clear q20 q21 q30 q31 q32 q33 q40 q41 q4f q4g; have HA5 := HA4.below (below_alloc (Below.refl _ _) (.cells #[.int .i64 r1, .slice A2 r2.length c2] 43)); have q20 := HA5.c20; have q21 := HA5.c21; have q30 := HA5.c30; have q31 := HA5.c31; have q32 := HA5.c32; have q33 := HA5.c33; have q40 := HA5.c40; have q41 := HA5.c41; have q4f := HA5.f40; have q4g := HA5.f41
  go_wp2
  refine bodyPost_ret (v := .tuple #[.agg #[.int .i64 r1, .slice A2 r2.length c2], .bool (r3 == 0)]) (by simp [HA5.p0, HA5.p1, results, Try.results30, go_sem]) rfl ?_
  exact after_new HE.out HA5.bl hlt.out (Kd.R_alloc HV.out _) _ _
set_option maxRecDepth 100000 in
set_option maxHeartbeats 4000000 in
theorem after_22 (m : Int) (A : Option Addr) (c : Nat) (l : List Lv) (d : De) (ok : Nat → Prop) (w : World) (hm : mOk m) (hrt : rtL m l) (hl : l.length ≤ 1000) (hF : Kd.F k59 w ok A l.length l) (hc : l.length ≤ c) (z0 : d.f0 = 2) (y0 : ¬ d.f3 = 0) (y1 : d.f3 = 2) :
    Calls Try.prog 30 #[.agg #[.int .i64 m, .slice A l.length c], .agg #[.int .i64 d.f0, .int .i64 d.f1, .int .i64 d.f2, .int .i64 d.f3]] w (AfterPost m l d ok w) := by
  have hu := Try.underlying59
  have hu2 := Try.underlying43
  have hu3 := Try.underlying38
  have HA0 := AX.new w m A l.length c d
  have HF := Sh.mk hF
  obtain ⟨cc, has, hcr⟩ : ∃ cc has, clsR d.f1 = (cc, has) := ⟨_, _, rfl⟩
  have HQ : ∀ W, Sh (Calls Try.prog 42 #[.int .i64 d.f1] W fun e w' => e = .returned (.tuple #[.int .i64 cc, .bool has]) ∧ Below W.heap.size W w') := fun W => ⟨by obtain ⟨k, hk⟩ := (class_ev d.f1).1.rounds; have h := size_Class.calls k d.f1 (clsR d.f1).1 (clsR d.f1).2 W hk; rw [hcr] at h; exact h⟩
  obtain ⟨y0_, y1_, y2_, live, hfr⟩ : ∃ a b c e, findR l d.f2 = (a, b, c, e) := ⟨_, _, _, _, rfl⟩
  have HQ2 : ∀ W, Below w.heap.size w W → Sh (Calls Try.prog 43 #[.agg #[.int .i64 m, .slice A l.length c], .int .i64 d.f2] W fun e w' => e = .returned (.tuple #[.agg #[.int .i64 y0_, .int .i64 y1_, .int .i64 y2_], .bool live]) ∧ Below W.heap.size W w') := fun W hW => ⟨model_Find.calls m A c l d.f2 y0_ y1_ y2_ live W (Kd.F_now (Kd.F_below hF hW)) hc (by rw [find_is hrt hl, hfr])⟩
  have HE : Sh (accR m l d = (m, l, !live)) := ⟨by unfold accR; rw [if_neg (by omega), if_neg (by omega), if_neg (by omega), if_neg (by omega), if_pos ⟨z0, y1⟩, hfr]⟩
  have bb0 : (d.f0 == 1) = false := by simp [z0]
  have bb1 : (d.f0 == 2) = true := by simpa using z0
  have bb2 : (d.f3 == 0) = false := by simpa using y0
  have bb3 : (d.f3 == 2) = true := by simpa using y1
  clear hcr hF hm hrt hfr z0 y0 y1
  have q20 := HA0.c20; have q21 := HA0.c21; have q30 := HA0.c30; have q31 := HA0.c31; have q32 := HA0.c32; have q33 := HA0.c33; have q40 := HA0.c40; have q41 := HA0.c41; have q4f := HA0.f40; have q4g := HA0.f41
  go_enter Try.func30, Try.ntmps30
  go_wp2_with fail
  (with_reducible refine (HQ _).out.mono ?_); rintro e w2 ⟨rfl, hd⟩; have HA1 := HA0.below hd; clear hd; clear q20 q21 q30 q31 q32 q33 q40 q41 q4f q4g; have q20 := HA1.c20; have q21 := HA1.c21; have q30 := HA1.c30; have q31 := HA1.c31; have q32 := HA1.c32; have q33 := HA1.c33; have q40 := HA1.c40; have q41 := HA1.c41; have q4f := HA1.f40; have q4g := HA1.f41; clear HA0
  go_wp2_with fail
  (with_reducible refine (HQ2 _ HA1.bl).out.mono ?_); rintro e w3 ⟨rfl, hd⟩; have HA2 := HA1.below hd; clear hd; clear q20 q21 q30 q31 q32 q33 q40 q41 q4f q4g; have HA3 := HA2.below (below_alloc (Below.refl _ _) (.cells #[.int .i64 y0_, .int .i64 y1_, .int .i64 y2_] 59)); have q20 := HA3.c20; have q21 := HA3.c21; have q30 := HA3.c30; have q31 := HA3.c31; have q32 := HA3.c32; have q33 := HA3.c33; have q40 := HA3.c40; have q41 := HA3.c41; have q4f := HA3.f40; have q4g := HA3.f41; clear HA1
  go_wp2
  refine bodyPost_ret (v := .tuple #[.agg #[.int .i64 m, .slice A l.length c], .bool (!live)]) (by simp [HA3.p0, HA3.p1, results, Try.results30, go_sem]) rfl ?_
  exact after_same HF.out hc HE.out HA3.bl _ _
set_option maxRecDepth 100000 in
set_option maxHeartbeats 4000000 in
theorem after_2x (m : Int) (A : Option Addr) (c : Nat) (l : List Lv) (d : De) (ok : Nat → Prop) (w : World) (hm : mOk m) (hrt : rtL m l) (hl : l.length ≤ 1000) (hF : Kd.F k59 w ok A l.length l) (hc : l.length ≤ c) (z0 : d.f0 = 2) (y0 : ¬ d.f3 = 0) (y1 : ¬ d.f3 = 2) :
    Calls Try.prog 30 #[.agg #[.int .i64 m, .slice A l.length c], .agg #[.int .i64 d.f0, .int .i64 d.f1, .int .i64 d.f2, .int .i64 d.f3]] w (AfterPost m l d ok w) := by
  have hu := Try.underlying59
  have hu2 := Try.underlying43
  have hu3 := Try.underlying38
  have HA0 := AX.new w m A l.length c d
  have HF := Sh.mk hF
  obtain ⟨cc, has, hcr⟩ : ∃ cc has, clsR d.f1 = (cc, has) := ⟨_, _, rfl⟩
  have HQ : ∀ W, Sh (Calls Try.prog 42 #[.int .i64 d.f1] W fun e w' => e = .returned (.tuple #[.int .i64 cc, .bool has]) ∧ Below W.heap.size W w') := fun W => ⟨by obtain ⟨k, hk⟩ := (class_ev d.f1).1.rounds; have h := size_Class.calls k d.f1 (clsR d.f1).1 (clsR d.f1).2 W hk; rw [hcr] at h; exact h⟩
  obtain ⟨y0_, y1_, y2_, live, hfr⟩ : ∃ a b c e, findR l d.f2 = (a, b, c, e) := ⟨_, _, _, _, rfl⟩
  have HQ2 : ∀ W, Below w.heap.size w W → Sh (Calls Try.prog 43 #[.agg #[.int .i64 m, .slice A l.length c], .int .i64 d.f2] W fun e w' => e = .returned (.tuple #[.agg #[.int .i64 y0_, .int .i64 y1_, .int .i64 y2_], .bool live]) ∧ Below W.heap.size W w') := fun W hW => ⟨model_Find.calls m A c l d.f2 y0_ y1_ y2_ live W (Kd.F_now (Kd.F_below hF hW)) hc (by rw [find_is hrt hl, hfr])⟩
  have HE : Sh (accR m l d = (m, l, false)) := ⟨by unfold accR; rw [if_neg (by omega), if_neg (by omega), if_neg (by omega), if_neg (by omega), if_neg (by omega)]⟩
  have bb0 : (d.f0 == 1) = false := by simp [z0]
  have bb1 : (d.f0 == 2) = true := by simpa using z0
  have bb2 : (d.f3 == 0) = false := by simpa using y0
  have bb3 : (d.f3 == 2) = false := by simpa using y1
  clear hcr hF hm hrt hfr z0 y0 y1
  have q20 := HA0.c20; have q21 := HA0.c21; have q30 := HA0.c30; have q31 := HA0.c31; have q32 := HA0.c32; have q33 := HA0.c33; have q40 := HA0.c40; have q41 := HA0.c41; have q4f := HA0.f40; have q4g := HA0.f41
  go_enter Try.func30, Try.ntmps30
  go_wp2_with fail
  (with_reducible refine (HQ _).out.mono ?_); rintro e w2 ⟨rfl, hd⟩; have HA1 := HA0.below hd; clear hd; clear q20 q21 q30 q31 q32 q33 q40 q41 q4f q4g; have q20 := HA1.c20; have q21 := HA1.c21; have q30 := HA1.c30; have q31 := HA1.c31; have q32 := HA1.c32; have q33 := HA1.c33; have q40 := HA1.c40; have q41 := HA1.c41; have q4f := HA1.f40; have q4g := HA1.f41; clear HA0
  go_wp2_with fail
  (with_reducible refine (HQ2 _ HA1.bl).out.mono ?_); rintro e w3 ⟨rfl, hd⟩; have HA2 := HA1.below hd; clear hd; clear q20 q21 q30 q31 q32 q33 q40 q41 q4f q4g; have HA3 := HA2.below (below_alloc (Below.refl _ _) (.cells #[.int .i64 y0_, .int .i64 y1_, .int .i64 y2_] 59)); have q20 := HA3.c20; have q21 := HA3.c21; have q30 := HA3.c30; have q31 := HA3.c31; have q32 := HA3.c32; have q33 := HA3.c33; have q40 := HA3.c40; have q41 := HA3.c41; have q4f := HA3.f40; have q4g := HA3.f41; clear HA1
  go_wp2
  refine bodyPost_ret (v := .tuple #[.agg #[.int .i64 m, .slice A l.length c], .bool (false)]) (by simp [HA3.p0, HA3.p1, results, Try.results30, go_sem]) rfl ?_
  exact after_same HF.out hc HE.out HA3.bl _ _
set_option maxRecDepth 100000 in
set_option maxHeartbeats 4000000 in
theorem after_xx (m : Int) (A : Option Addr) (c : Nat) (l : List Lv) (d : De) (ok : Nat → Prop) (w : World) (hm : mOk m) (hrt : rtL m l) (hl : l.length ≤ 1000) (hF : Kd.F k59 w ok A l.length l) (hc : l.length ≤ c) (z1 : ¬ d.f0 = 1) (z2 : ¬ d.f0 = 2) :
    Calls Try.prog 30 #[.agg #[.int .i64 m, .slice A l.length c], .agg #[.int .i64 d.f0, .int .i64 d.f1, .int .i64 d.f2, .int .i64 d.f3]] w (AfterPost m l d ok w) := by
  have hu := Try.underlying59
  have hu2 := Try.underlying43
  have hu3 := Try.underlying38
  have HA0 := AX.new w m A l.length c d
  have HF := Sh.mk hF
  obtain ⟨cc, has, hcr⟩ : ∃ cc has, clsR d.f1 = (cc, has) := ⟨_, _, rfl⟩
  have HQ : ∀ W, Sh (Calls Try.prog 42 #[.int .i64 d.f1] W fun e w' => e = .returned (.tuple #[.int .i64 cc, .bool has]) ∧ Below W.heap.size W w') := fun W => ⟨by obtain ⟨k, hk⟩ := (class_ev d.f1).1.rounds; have h := size_Class.calls k d.f1 (clsR d.f1).1 (clsR d.f1).2 W hk; rw [hcr] at h; exact h⟩
  obtain ⟨y0_, y1_, y2_, live, hfr⟩ : ∃ a b c e, findR l d.f2 = (a, b, c, e) := ⟨_, _, _, _, rfl⟩
  have HQ2 : ∀ W, Below w.heap.size w W → Sh (Calls Try.prog 43 #[.agg #[.int .i64 m, .slice A l.length c], .int .i64 d.f2] W fun e w' => e = .returned (.tuple #[.agg #[.int .i64 y0_, .int .i64 y1_, .int .i64 y2_], .bool live]) ∧ Below W.heap.size W w') := fun W hW => ⟨model_Find.calls m A c l d.f2 y0_ y1_ y2_ live W (Kd.F_now (Kd.F_below hF hW)) hc (by rw [find_is hrt hl, hfr])⟩
  have HE : Sh (accR m l d = (m, l, false)) := ⟨by unfold accR; rw [if_neg (by omega), if_neg (by omega), if_neg (by omega), if_neg (by omega), if_neg (by omega)]⟩
  have bb0 : (d.f0 == 1) = false := by simpa using z1
  have bb1 : (d.f0 == 2) = false := by simpa using z2
  clear hcr hF hm hrt hfr z1 z2
  have q20 := HA0.c20; have q21 := HA0.c21; have q30 := HA0.c30; have q31 := HA0.c31; have q32 := HA0.c32; have q33 := HA0.c33; have q40 := HA0.c40; have q41 := HA0.c41; have q4f := HA0.f40; have q4g := HA0.f41
  go_enter Try.func30, Try.ntmps30
  go_wp2_with fail
  (with_reducible refine (HQ _).out.mono ?_); rintro e w2 ⟨rfl, hd⟩; have HA1 := HA0.below hd; clear hd; clear q20 q21 q30 q31 q32 q33 q40 q41 q4f q4g; have q20 := HA1.c20; have q21 := HA1.c21; have q30 := HA1.c30; have q31 := HA1.c31; have q32 := HA1.c32; have q33 := HA1.c33; have q40 := HA1.c40; have q41 := HA1.c41; have q4f := HA1.f40; have q4g := HA1.f41; clear HA0
  go_wp2_with fail
  (with_reducible refine (HQ2 _ HA1.bl).out.mono ?_); rintro e w3 ⟨rfl, hd⟩; have HA2 := HA1.below hd; clear hd; clear q20 q21 q30 q31 q32 q33 q40 q41 q4f q4g; have HA3 := HA2.below (below_alloc (Below.refl _ _) (.cells #[.int .i64 y0_, .int .i64 y1_, .int .i64 y2_] 59)); have q20 := HA3.c20; have q21 := HA3.c21; have q30 := HA3.c30; have q31 := HA3.c31; have q32 := HA3.c32; have q33 := HA3.c33; have q40 := HA3.c40; have q41 := HA3.c41; have q4f := HA3.f40; have q4g := HA3.f41; clear HA1
  go_wp2
  refine bodyPost_ret (v := .tuple #[.agg #[.int .i64 m, .slice A l.length c], .bool (false)]) (by simp [HA3.p0, HA3.p1, results, Try.results30, go_sem]) rfl ?_
  exact after_same HF.out hc HE.out HA3.bl _ _
theorem after_any (m : Int) (A : Option Addr) (c : Nat) (l : List Lv) (d : De) (ok : Nat → Prop) (w : World) (hm : mOk m) (hrt : rtL m l) (hl : l.length ≤ 1000) (hF : Kd.F k59 w ok A l.length l) (hc : l.length ≤ c) :
    Calls Try.prog 30 #[.agg #[.int .i64 m, .slice A l.length c], .agg #[.int .i64 d.f0, .int .i64 d.f1, .int .i64 d.f2, .int .i64 d.f3]] w (AfterPost m l d ok w) := by
  by_cases z1 : d.f0 = 1
  · by_cases y0 : d.f3 = 0
    · exact after_10 m A c l d ok w hm hrt hl hF hc z1 y0
    · by_cases y1 : d.f3 = 3
      · exact after_13 m A c l d ok w hm hrt hl hF hc z1 y0 y1
      · by_cases y2 : d.f3 = 1
        · exact after_11 m A c l d ok w hm hrt hl hF hc z1 y0 y1 y2
        · exact after_1x m A c l d ok w hm hrt hl hF hc z1 y0 y1 y2
  · by_cases z2 : d.f0 = 2
    · by_cases y0 : d.f3 = 0
      · exact after_20 m A c l d ok w hm hrt hl hF hc z2 y0
      · by_cases y1 : d.f3 = 2
        · exact after_22 m A c l d ok w hm hrt hl hF hc z2 y0 y1
        · exact after_2x m A c l d ok w hm hrt hl hF hc z2 y0 y1
    · exact after_xx m A c l d ok w hm hrt hl hF hc z1 z2
set_option maxRecDepth 100000 in
set_option maxHeartbeats 4000000 in
theorem accept_10 (m : Int) (A : Option Addr) (c : Nat) (l : List Lv) (d : De) (ok : Nat → Prop) (w : World) (hm : mOk m) (hrt : rtL m l) (hl : l.length ≤ 1000) (hF : Kd.F k59 w ok A l.length l) (hc : l.length ≤ c) (z0 : d.f0 = 1) (y0 : d.f3 = 0) :
    Calls Try.prog 47 #[.agg #[.int .i64 m, .slice A l.length c], .agg #[.int .i64 d.f0, .int .i64 d.f1, .int .i64 d.f2, .int .i64 d.f3]] w (AfterPost m l d ok w) := by
  have hu := Try.underlying59
  have hu2 := Try.underlying43
  have hu3 := Try.underlying38
  have HA0 := AX.new w m A l.length c d
  have HF := Sh.mk hF
  obtain ⟨cc, has, hcr⟩ : ∃ cc has, clsR d.f1 = (cc, has) := ⟨_, _, rfl⟩
  have HQ : ∀ W, Sh (Calls Try.prog 40 #[.int .i64 d.f1] W fun e w' => e = .returned (.tuple #[.int .i64 cc, .bool has]) ∧ Below W.heap.size W w') := fun W => ⟨by have h := (class_q d.f1 W).mono (R' := fun e w' => e = .returned (.tuple #[.int .i64 (clsR d.f1).1, .bool (clsR d.f1).2]) ∧ Below W.heap.size W w') (fun e w' ⟨h1, q, h2⟩ => ⟨h1, by subst h2; exact pw_below_drewN (Below.refl _ _) _⟩); rw [hcr] at h; exact h⟩
  have HE : Sh (accR m l d = allocR m l d.f1 d.f2) := ⟨by unfold accR; rw [if_pos ⟨z0, y0⟩]⟩
  obtain ⟨r1, r2, r3, har⟩ : ∃ a b c, allocR m l d.f1 d.f2 = (a, b, c) := ⟨_, _, _, rfl⟩
  have HE := Sh.mk (HE.out.trans har)
  have HQ3 : ∀ W, Below w.heap.size w W → Sh (Calls Try.prog 39 #[.agg #[.int .i64 m, .slice A l.length c], .int .i64 d.f1, .int .i64 d.f2] W fun e w' => ∃ v1_ : Value, e = .returned (.tuple #[.agg #[.int .i64 r1, v1_], .bool r3]) ∧ Kd.R k59 59 w' W.heap.size (fun _ => True) v1_ r2 ∧ Below W.heap.size W w') := fun W hW => ⟨rickyardref13_Alloc.calls m A c l d.f1 d.f2 r1 r2 r3 W (Kd.F_now (Kd.F_below hF hW)) hc (by unfold rickyardref13_Alloc.f; rw [if_pos hl, ralloc_is hm hrt, har])⟩
  clear har
  have bb0 : (d.f0 == 1) = true := by simpa using z0
  have bb1 : (d.f0 == 2) = false := by simp [z0]
  have bb2 : (d.f3 == 0) = true := by simpa using y0
  clear hcr hF hm hrt z0 y0
  have q20 := HA0.c20; have q21 := HA0.c21; have q30 := HA0.c30; have q31 := HA0.c31; have q32 := HA0.c32; have q33 := HA0.c33; have q40 := HA0.c40; have q41 := HA0.c41; have q4f := HA0.f40; have q4g := HA0.f41
  go_enter Try.func47, Try.ntmps47
  go_wp2_with fail
  (with_reducible refine (HQ _).out.mono ?_); rintro e w2 ⟨rfl, hd⟩; have HA1 := HA0.below hd; clear hd; clear q20 q21 q30 q31 q32 q33 q40 q41 q4f q4g; have q20 := HA1.c20; have q21 := HA1.c21; have q30 := HA1.c30; have q31 := HA1.c31; have q32 := HA1.c32; have q33 := HA1.c33; have q40 := HA1.c40; have q41 := HA1.c41; have q4f := HA1.f40; have q4g := HA1.f41; clear HA0
  go_wp2_with fail
  have hlt := Sh.mk (blk_lt HA1.b4)
  (with_reducible refine (HQ3 _ HA1.bl).out.mono ?_); rintro e w4 ⟨v1, rfl, hv, hd⟩; have HA4 := HA1.below hd; clear hd; obtain ⟨A2, c2, e2⟩ := Kd.R_slice hv; subst e2; have HV := Sh.mk hv; clear hv; clear q20 q21 q30 q31 q32 q33 q40 q41 q4f q4g; have q20 := HA4.c20; have q21 := HA4.c21; have q30 := HA4.c30; have q31 := HA4.c31; have q32 := HA4.c32; have q33 := HA4.c33; have q40 := HA4.c40; have q41 := HA4.c41; have q4f := HA4.f40; have q4g := HA4.f41
  go_wp2
  refine bodyPost_ret (v := .tuple #[.agg #[.int .i64 r1, .slice A2 r2.length c2], .bool r3]) (by simp [HA4.p0, HA4.p1, results, Try.results47, go_sem]) rfl ?_
  exact after_new HE.out HA4.bl hlt.out HV.out _ _
set_option maxRecDepth 100000 in
set_option maxHeartbeats 4000000 in
theorem accept_13 (m : Int) (A : Option Addr) (c : Nat) (l : List Lv) (d : De) (ok : Nat → Prop) (w : World) (hm : mOk m) (hrt : rtL m l) (hl : l.length ≤ 1000) (hF : Kd.F k59 w ok A l.length l) (hc : l.length ≤ c) (z0 : d.f0 = 1) (y0 : ¬ d.f3 = 0) (y1 : d.f3 = 3) :
    Calls Try.prog 47 #[.agg #[.int .i64 m, .slice A l.length c], .agg #[.int .i64 d.f0, .int .i64 d.f1, .int .i64 d.f2, .int .i64 d.f3]] w (AfterPost m l d ok w) := by
  have hu := Try.underlying59
  have hu2 := Try.underlying43
  have hu3 := Try.underlying38
  have HA0 := AX.new w m A l.length c d
  have HF := Sh.mk hF
  obtain ⟨cc, has, hcr⟩ : ∃ cc has, clsR d.f1 = (cc, has) := ⟨_, _, rfl⟩
  have HQ : ∀ W, Sh (Calls Try.prog 40 #[.int .i64 d.f1] W fun e w' => e = .returned (.tuple #[.int .i64 cc, .bool has]) ∧ Below W.heap.size W w') := fun W => ⟨by have h := (class_q d.f1 W).mono (R' := fun e w' => e = .returned (.tuple #[.int .i64 (clsR d.f1).1, .bool (clsR d.f1).2]) ∧ Below W.heap.size W w') (fun e w' ⟨h1, q, h2⟩ => ⟨h1, by subst h2; exact pw_below_drewN (Below.refl _ _) _⟩); rw [hcr] at h; exact h⟩
  have HE : Sh (accR m l d = (m, l, has)) := ⟨by unfold accR; rw [if_neg (fun h => y0 h.2), if_pos ⟨z0, y1⟩, hcr]⟩
  have bb0 : (d.f0 == 1) = true := by simpa using z0
  have bb1 : (d.f0 == 2) = false := by simp [z0]
  have bb2 : (d.f3 == 0) = false := by simpa using y0
  have bb3 : (d.f3 == 3) = true := by simpa using y1
  clear hcr hF hm hrt z0 y0 y1
  have q20 := HA0.c20; have q21 := HA0.c21; have q30 := HA0.c30; have q31 := HA0.c31; have q32 := HA0.c32; have q33 := HA0.c33; have q40 := HA0.c40; have q41 := HA0.c41; have q4f := HA0.f40; have q4g := HA0.f41
  go_enter Try.func47, Try.ntmps47
  go_wp2_with fail
  (with_reducible refine (HQ _).out.mono ?_); rintro e w2 ⟨rfl, hd⟩; have HA1 := HA0.below hd; clear hd; clear q20 q21 q30 q31 q32 q33 q40 q41 q4f q4g; have q20 := HA1.c20; have q21 := HA1.c21; have q30 := HA1.c30; have q31 := HA1.c31; have q32 := HA1.c32; have q33 := HA1.c33; have q40 := HA1.c40; have q41 := HA1.c41; have q4f := HA1.f40; have q4g := HA1.f41; clear HA0
  go_wp2
  refine bodyPost_ret (v := .tuple #[.agg #[.int .i64 m, .slice A l.length c], .bool (has)]) (by simp [HA1.p0, HA1.p1, results, Try.results47, go_sem]) rfl ?_
  exact after_same HF.out hc HE.out HA1.bl _ _
set_option maxRecDepth 100000 in
set_option maxHeartbeats 4000000 in
theorem accept_11 (m : Int) (A : Option Addr) (c : Nat) (l : List Lv) (d : De) (ok : Nat → Prop) (w : World) (hm : mOk m) (hrt : rtL m l) (hl : l.length ≤ 1000) (hF : Kd.F k59 w ok A l.length l) (hc : l.length ≤ c) (z0 : d.f0 = 1) (y0 : ¬ d.f3 = 0) (y1 : ¬ d.f3 = 3) (y2 : d.f3 = 1) :
    Calls Try.prog 47 #[.agg #[.int .i64 m, .slice A l.length c], .agg #[.int .i64 d.f0, .int .i64 d.f1, .int .i64 d.f2, .int .i64 d.f3]] w (AfterPost m l d ok w) := by
  have hu := Try.underlying59
  have hu2 := Try.underlying43
  have hu3 := Try.underlying38
  have HA0 := AX.new w m A l.length c d
  have HF := Sh.mk hF
  obtain ⟨cc, has, hcr⟩ : ∃ cc has, clsR d.f1 = (cc, has) := ⟨_, _, rfl⟩
  have HQ : ∀ W, Sh (Calls Try.prog 40 #[.int .i64 d.f1] W fun e w' => e = .returned (.tuple #[.int .i64 cc, .bool has]) ∧ Below W.heap.size W w') := fun W => ⟨by have h := (class_q d.f1 W).mono (R' := fun e w' => e = .returned (.tuple #[.int .i64 (clsR d.f1).1, .bool (clsR d.f1).2]) ∧ Below W.heap.size W w') (fun e w' ⟨h1, q, h2⟩ => ⟨h1, by subst h2; exact pw_below_drewN (Below.refl _ _) _⟩); rw [hcr] at h; exact h⟩
  have HE : Sh (accR m l d = (m, l, !has)) := ⟨by unfold accR; rw [if_neg (fun h => y0 h.2), if_neg (fun h => y1 h.2), if_pos ⟨z0, y2⟩, hcr]⟩
  have bb0 : (d.f0 == 1) = true := by simpa using z0
  have bb1 : (d.f0 == 2) = false := by simp [z0]
  have bb2 : (d.f3 == 0) = false := by simpa using y0
  have bb3 : (d.f3 == 3) = false := by simpa using y1
  have bb4 : (d.f3 == 1) = true := by simpa using y2
  clear hcr hF hm hrt z0 y0 y1 y2
  have q20 := HA0.c20; have q21 := HA0.c21; have q30 := HA0.c30; have q31 := HA0.c31; have q32 := HA0.c32; have q33 := HA0.c33; have q40 := HA0.c40; have q41 := HA0.c41; have q4f := HA0.f40; have q4g := HA0.f41
  go_enter Try.func47, Try.ntmps47
  go_wp2_with fail
  (with_reducible refine (HQ _).out.mono ?_); rintro e w2 ⟨rfl, hd⟩; have HA1 := HA0.below hd; clear hd; clear q20 q21 q30 q31 q32 q33 q40 q41 q4f q4g; have q20 := HA1.c20; have q21 := HA1.c21; have q30 := HA1.c30; have q31 := HA1.c31; have q32 := HA1.c32; have q33 := HA1.c33; have q40 := HA1.c40; have q41 := HA1.c41; have q4f := HA1.f40; have q4g := HA1.f41; clear HA0
  go_wp2
  refine bodyPost_ret (v := .tuple #[.agg #[.int .i64 m, .slice A l.length c], .bool (!has)]) (by simp [HA1.p0, HA1.p1, results, Try.results47, go_sem]) rfl ?_
  exact after_same HF.out hc HE.out HA1.bl _ _
set_option maxRecDepth 100000 in
set_option maxHeartbeats 4000000 in
theorem accept_1x (m : Int) (A : Option Addr) (c : Nat) (l : List Lv) (d : De) (ok : Nat → Prop) (w : World) (hm : mOk m) (hrt : rtL m l) (hl : l.length ≤ 1000) (hF : Kd.F k59 w ok A l.length l) (hc : l.length ≤ c) (z0 : d.f0 = 1) (y0 : ¬ d.f3 = 0) (y1 : ¬ d.f3 = 3) (y2 : ¬ d.f3 = 1) :
    Calls Try.prog 47 #[.agg #[.int .i64 m, .slice A l.length c], .agg #[.int .i64 d.f0, .int .i64 d.f1, .int .i64 d.f2, .int .i64 d.f3]] w (AfterPost m l d ok w) := by
  have hu := Try.underlying59
  have hu2 := Try.underlying43
  have hu3 := Try.underlying38
  have HA0 := AX.new w m A l.length c d
  have HF := Sh.mk hF
  obtain ⟨cc, has, hcr⟩ : ∃ cc has, clsR d.f1 = (cc, has) := ⟨_, _, rfl⟩
  have HQ : ∀ W, Sh (Calls Try.prog 40 #[.int .i64 d.f1] W fun e w' => e = .returned (.tuple #[.int .i64 cc, .bool has]) ∧ Below W.heap.size W w') := fun W => ⟨by have h := (class_q d.f1 W).mono (R' := fun e w' => e = .returned (.tuple #[.int .i64 (clsR d.f1).1, .bool (clsR d.f1).2]) ∧ Below W.heap.size W w') (fun e w' ⟨h1, q, h2⟩ => ⟨h1, by subst h2; exact pw_below_drewN (Below.refl _ _) _⟩); rw [hcr] at h; exact h⟩
  have HE : Sh (accR m l d = (m, l, false)) := ⟨by unfold accR; rw [if_neg (fun h => y0 h.2), if_neg (fun h => y1 h.2), if_neg (fun h => y2 h.2), if_neg (by omega), if_neg (by omega)]⟩
  have bb0 : (d.f0 == 1) = true := by simpa using z0
  have bb1 : (d.f0 == 2) = false := by simp [z0]
  have bb2 : (d.f3 == 0) = false := by simpa using y0
  have bb3 : (d.f3 == 3) = false := by simpa using y1
  have bb4 : (d.f3 == 1) = false := by simpa using y2
  clear hcr hF hm hrt z0 y0 y1 y2
  have q20 := HA0.c20; have q21 := HA0.c21; have q30 := HA0.c30; have q31 := HA0.c31; have q32 := HA0.c32; have q33 := HA0.c33; have q40 := HA0.c40; have q41 := HA0.c41; have q4f := HA0.f40; have q4g := HA0.f41
  go_enter Try.func47, Try.ntmps47
  go_wp2_with fail
  (with_reducible refine (HQ _).out.mono ?_); rintro e w2 ⟨rfl, hd⟩; have HA1 := HA0.below hd; clear hd; clear q20 q21 q30 q31 q32 q33 q40 q41 q4f q4g; have q20 := HA1.c20; have q21 := HA1.c21; have q30 := HA1.c30; have q31 := HA1.c31; have q32 := HA1.c32; have q33 := HA1.c33; have q40 := HA1.c40; have q41 := HA1.c41; have q4f := HA1.f40; have q4g := HA1.f41; clear HA0
  go_wp2
  refine bodyPost_ret (v := .tuple #[.agg #[.int .i64 m, .slice A l.length c], .bool (false)]) (by simp [HA1.p0, HA1.p1, results, Try.results47, go_sem]) rfl ?_
  exact after_same HF.out hc HE.out HA1.bl _ _
set_option maxRecDepth 100000 in
set_option maxHeartbeats 4000000 in
theorem accept_20 (m : Int) (A : Option Addr) (c : Nat) (l : List Lv) (d : De) (ok : Nat → Prop) (w : World) (hm : mOk m) (hrt : rtL m l) (hl : l.length ≤ 1000) (hF : Kd.F k59 w ok A l.length l) (hc : l.length ≤ c) (z0 : d.f0 = 2) (y0 : d.f3 = 0) :
    Calls Try.prog 47 #[.agg #[.int .i64 m, .slice A l.length c], .agg #[.int .i64 d.f0, .int .i64 d.f1, .int .i64 d.f2, .int .i64 d.f3]] w (AfterPost m l d ok w) := by
  have hu := Try.underlying59
  have hu2 := Try.underlying43
  have hu3 := Try.underlying38
  have HA0 := AX.new w m A l.length c d
  have HF := Sh.mk hF
  obtain ⟨cc, has, hcr⟩ : ∃ cc has, clsR d.f1 = (cc, has) := ⟨_, _, rfl⟩
  have HQ : ∀ W, Sh (Calls Try.prog 40 #[.int .i64 d.f1] W fun e w' => e = .returned (.tuple #[.int .i64 cc, .bool has]) ∧ Below W.heap.size W w') := fun W => ⟨by have h := (class_q d.f1 W).mono (R' := fun e w' => e = .returned (.tuple #[.int .i64 (clsR d.f1).1, .bool (clsR d.f1).2]) ∧ Below W.heap.size W w') (fun e w' ⟨h1, q, h2⟩ => ⟨h1, by subst h2; exact pw_below_drewN (Below.refl _ _) _⟩); rw [hcr] at h; exact h⟩
  have HE : Sh (accR m l d = ((freeR m l d.f2).1, (freeR m l d.f2).2.1, (freeR m l d.f2).2.2 == 0)) := ⟨by unfold accR; rw [if_neg (by omega), if_neg (by omega), if_neg (by omega), if_pos ⟨z0, y0⟩]⟩
  obtain ⟨r1, r2, r3, har⟩ : ∃ a b c, freeR m l d.f2 = (a, b, c) := ⟨_, _, _, rfl⟩
  have HE : Sh (accR m l d = (r1, r2, r3 == 0)) := ⟨by rw [HE.out, har]⟩
  have HQ3 : ∀ W, Below w.heap.size w W → Sh (Calls Try.prog 38 #[.agg #[.int .i64 m, .slice A l.length c], .int .i64 d.f2] W fun e w' => ∃ v1_ : Value, e = .returned (.tuple #[.agg #[.int .i64 r1, v1_], .int .i64 r3]) ∧ Kd.R k59 59 w' W.heap.size (fun _ => True) v1_ r2 ∧ Below W.heap.size W w') := fun W hW => ⟨by obtain ⟨k, hk⟩ := (rfree_ev hrt hl d.f2).rounds; exact rickyardref13_Free.calls k m A c l d.f2 r1 r2 r3 W (Kd.F_now (Kd.F_below hF hW)) hc (by rw [hk, har])⟩
  clear har
  have bb0 : (d.f0 == 1) = false := by simp [z0]
  have bb1 : (d.f0 == 2) = true := by simpa using z0
  have bb2 : (d.f3 == 0) = true := by simpa using y0
  clear hcr hF hm hrt z0 y0
  have q20 := HA0.c20; have q21 := HA0.c21; have q30 := HA0.c30; have q31 := HA0.c31; have q32 := HA0.c32; have q33 := HA0.c33; have q40 := HA0.c40; have q41 := HA0.c41; have q4f := HA0.f40; have q4g := HA0.f41
  go_enter Try.func47, Try.ntmps47
  go_wp2_with fail
  (with_reducible refine (HQ _).out.mono ?_); rintro e w2 ⟨rfl, hd⟩; have HA1 := HA0.below hd; clear hd; clear q20 q21 q30 q31 q32 q33 q40 q41 q4f q4g; have q20 := HA1.c20; have q21 := HA1.c21; have q30 := HA1.c30; have q31 := HA1.c31; have q32 := HA1.c32; have q33 := HA1.c33; have q40 := HA1.c40; have q41 := HA1.c41; have q4f := HA1.f40; have q4g := HA1.f41; clear HA0
  go_wp2_with fail
  have hlt := Sh.mk (blk_lt HA1.b4)
  (with_reducible refine (HQ3 _ HA1.bl).out.mono ?_); rintro e w4 ⟨v1, rfl, hv, hd⟩; have HA4 := HA1.below hd; clear hd; obtain ⟨A2, c2, e2⟩ := Kd.R_slice hv; subst e2; have HV := Sh.mk hv; clear hv; clear q20 q21 q30 q31 q32 q33 q40 q41 q4f q4g; have HA5 := HA4.below (below_alloc (Below.refl _ _) (.cells #[.int .i64 r1, .slice A2 r2.length c2] 43)); have q20 := HA5.c20; have q21 := HA5.c21; have q30 := HA5.c30; have q31 := HA5.c31; have q32 := HA5.c32; have q33 := HA5.c33; have q40 := HA5.c40; have q41 := HA5.c41; have q4f := HA5.f40; have q4g := HA5.f41
  go_wp2
  refine bodyPost_ret (v := .tuple #[.agg #[.int .i64 r1, .slice A2 r2.length c2], .bool (r3 == 0)]) (by simp [HA5.p0, HA5.p1, results, Try.results47, go_sem]) rfl ?_
  exact after_new HE.out HA5.bl hlt.out (Kd.R_alloc HV.out _) _ _
set_option maxRecDepth 100000 in
set_option maxHeartbeats 4000000 in
theorem accept_22 (m : Int) (A : Option Addr) (c : Nat) (l : List Lv) (d : De) (ok : Nat → Prop) (w : World) (hm : mOk m) (hrt : rtL m l) (hl : l.length ≤ 1000) (hF : Kd.F k59 w ok A l.length l) (hc : l.length ≤ c) (z0 : d.f0 = 2) (y0 : ¬ d.f3 = 0) (y1 : d.f3 = 2) :
    Calls Try.prog 47 #[.agg #[.int .i64 m, .slice A l.length c], .agg #[.int .i64 d.f0, .int .i64 d.f1, .int .i64 d.f2, .int .i64 d.f3]] w (AfterPost m l d ok w) := by
  have hu := Try.underlying59
  have hu2 := Try.underlying43
  have hu3 := Try.underlying38
  have HA0 := AX.new w m A l.length c d
  have HF := Sh.mk hF
  obtain ⟨cc, has, hcr⟩ : ∃ cc has, clsR d.f1 = (cc, has) := ⟨_, _, rfl⟩
  have HQ : ∀ W, Sh (Calls Try.prog 40 #[.int .i64 d.f1] W fun e w' => e = .returned (.tuple #[.int .i64 cc, .bool has]) ∧ Below W.heap.size W w') := fun W => ⟨by have h := (class_q d.f1 W).mono (R' := fun e w' => e = .returned (.tuple #[.int .i64 (clsR d.f1).1, .bool (clsR d.f1).2]) ∧ Below W.heap.size W w') (fun e w' ⟨h1, q, h2⟩ => ⟨h1, by subst h2; exact pw_below_drewN (Below.refl _ _) _⟩); rw [hcr] at h; exact h⟩
  have HE : Sh (accR m l d = (m, l, !(findR l d.f2).2.2.2)) := ⟨by unfold accR; rw [if_neg (by omega), if_neg (by omega), if_neg (by omega), if_neg (by omega), if_pos ⟨z0, y1⟩]⟩
  obtain ⟨t, ht⟩ : ∃ t : Int, t = if (findL d.f2 l).isSome = true then (cntL d.f2 l : Int) else -1 := ⟨_, rfl⟩
  have HE : Sh (accR m l d = (m, l, decide (t < 0))) := ⟨by
    rw [HE.out, ht]; unfold findR
    cases findL d.f2 l with
    | none => rfl
    | some x => simp only [Option.isSome, if_true]; rw [decide_eq_false (show ¬ ((cntL d.f2 l : Int) < 0) by omega)]; rfl⟩
  have HQ3 : ∀ W, Below w.heap.size w W → Sh (Calls Try.prog 48 #[.slice A l.length c, .int .i64 d.f2] W fun e w' => e = .returned (.int .i64 t) ∧ Below W.heap.size W w') := fun W hW => ⟨by obtain ⟨k, hk⟩ := (rfind_ev hrt hl d.f2).rounds; rw [← ht] at hk; exact (rickyardref13_find.calls k A c l d.f2 t W (Kd.F_now (Kd.F_below hF hW)) hc hk).mono (fun e w' ⟨h1, h2⟩ => ⟨h1, h2.below⟩)⟩
  clear ht
  have bb0 : (d.f0 == 1) = false := by simp [z0]
  have bb1 : (d.f0 == 2) = true := by simpa using z0
  have bb2 : (d.f3 == 0) = false := by simpa using y0
  have bb3 : (d.f3 == 2) = true := by simpa using y1
  clear hcr hF hm hrt z0 y0 y1
  have q20 := HA0.c20; have q21 := HA0.c21; have q30 := HA0.c30; have q31 := HA0.c31; have q32 := HA0.c32; have q33 := HA0.c33; have q40 := HA0.c40; have q41 := HA0.c41; have q4f := HA0.f40; have q4g := HA0.f41
  go_enter Try.func47, Try.ntmps47
  go_wp2_with fail
  (with_reducible refine (HQ _).out.mono ?_); rintro e w2 ⟨rfl, hd⟩; have HA1 := HA0.below hd; clear hd; clear q20 q21 q30 q31 q32 q33 q40 q41 q4f q4g; have q20 := HA1.c20; have q21 := HA1.c21; have q30 := HA1.c30; have q31 := HA1.c31; have q32 := HA1.c32; have q33 := HA1.c33; have q40 := HA1.c40; have q41 := HA1.c41; have q4f := HA1.f40; have q4g := HA1.f41; clear HA0
  go_wp2
  go_region_held3 (fun W => W.cell? ⟨w.heap.size, 0, none⟩ = some (.int .i64 m) ∧ W.cell? ⟨w.heap.size, 1, none⟩ = some (.slice A l.length c) ∧ W.cell? ⟨w.heap.size + 1, 2, none⟩ = some (.int .i64 d.f2)) (first | exact ⟨(blk_cell (blk_far (blk_far HA4.b2 (by dsimp only; omega) _) (by dsimp only; omega) _) 0).trans rfl, (blk_cell (blk_far (blk_far HA4.b2 (by dsimp only; omega) _) (by dsimp only; omega) _) 1).trans rfl, (blk_cell (blk_far (blk_far HA4.b3 (by dsimp only; omega) _) (by dsimp only; omega) _) 2).trans rfl⟩ | exact ⟨HA4.c20, HA4.c21, HA4.c32⟩ | exact ⟨(blk_cell (blk_far (blk_far HA1.b2 (by dsimp only; omega) _) (by dsimp only; omega) _) 0).trans rfl, (blk_cell (blk_far (blk_far HA1.b2 (by dsimp only; omega) _) (by dsimp only; omega) _) 1).trans rfl, (blk_cell (blk_far (blk_far HA1.b3 (by dsimp only; omega) _) (by dsimp only; omega) _) 2).trans rfl⟩ | exact ⟨HA1.c20, HA1.c21, HA1.c32⟩) (first | (go_at_call 48; (with_reducible refine (HQ3 _ (HA1.below (Below.refl _ _).drew).bl).out.mono ?_); rintro e w4 ⟨rfl, hd⟩; have HA4 := (HA1.below (Below.refl _ _).drew).below hd; clear hd; clear q20 q21 q30 q31 q32 q33 q40 q41 q4f q4g; have q20 := HA4.c20; have q21 := HA4.c21; have q30 := HA4.c30; have q31 := HA4.c31; have q32 := HA4.c32; have q33 := HA4.c33; have q40 := HA4.c40; have q41 := HA4.c41; have q4f := HA4.f40; have q4g := HA4.f41))
  all_goals go_wp2
  all_goals (refine bodyPost_ret (v := .tuple #[.agg #[.int .i64 m, .slice A l.length c], .bool (decide (t < 0))]) (by simp [HA4.p0, HA4.p1, results, Try.results47, go_sem]) rfl ?_)
  all_goals (exact after_same HF.out hc HE.out HA4.bl _ _)
set_option maxRecDepth 100000 in
set_option maxHeartbeats 4000000 in
theorem accept_2x (m : Int) (A : Option Addr) (c : Nat) (l : List Lv) (d : De) (ok : Nat → Prop) (w : World) (hm : mOk m) (hrt : rtL m l) (hl : l.length ≤ 1000) (hF : Kd.F k59 w ok A l.length l) (hc : l.length ≤ c) (z0 : d.f0 = 2) (y0 : ¬ d.f3 = 0) (y1 : ¬ d.f3 = 2) :
    Calls Try.prog 47 #[.agg #[.int .i64 m, .slice A l.length c], .agg #[.int .i64 d.f0, .int .i64 d.f1, .int .i64 d.f2, .int .i64 d.f3]] w (AfterPost m l d ok w) := by
  have hu := Try.underlying59
  have hu2 := Try.underlying43
  have hu3 := Try.underlying38
  have HA0 := AX.new w m A l.length c d
  have HF := Sh.mk hF
  obtain ⟨cc, has, hcr⟩ : ∃ cc has, clsR d.f1 = (cc, has) := ⟨_, _, rfl⟩
  have HQ : ∀ W, Sh (Calls Try.prog 40 #[.int .i64 d.f1] W fun e w' => e = .returned (.tuple #[.int .i64 cc, .bool has]) ∧ Below W.heap.size W w') := fun W => ⟨by have h := (class_q d.f1 W).mono (R' := fun e w' => e = .returned (.tuple #[.int .i64 (clsR d.f1).1, .bool (clsR d.f1).2]) ∧ Below W.heap.size W w') (fun e w' ⟨h1, q, h2⟩ => ⟨h1, by subst h2; exact pw_below_drewN (Below.refl _ _) _⟩); rw [hcr] at h; exact h⟩
  have HE : Sh (accR m l d = (m, l, false)) := ⟨by unfold accR; rw [if_neg (by omega), if_neg (by omega), if_neg (by omega), if_neg (by omega), if_neg (by omega)]⟩
  have bb0 : (d.f0 == 1) = false := by simp [z0]
  have bb1 : (d.f0 == 2) = true := by simpa using z0
  have bb2 : (d.f3 == 0) = false := by simpa using y0
  have bb3 : (d.f3 == 2) = false := by simpa using y1
  clear hcr hF hm hrt z0 y0 y1
  have q20 := HA0.c20; have q21 := HA0.c21; have q30 := HA0.c30; have q31 := HA0.c31; have q32 := HA0.c32; have q33 := HA0.c33; have q40 := HA0.c40; have q41 := HA0.c41; have q4f := HA0.f40; have q4g := HA0.f41
  go_enter Try.func47, Try.ntmps47
  go_wp2_with fail
  (with_reducible refine (HQ _).out.mono ?_); rintro e w2 ⟨rfl, hd⟩; have HA1 := HA0.below hd; clear hd; clear q20 q21 q30 q31 q32 q33 q40 q41 q4f q4g; have q20 := HA1.c20; have q21 := HA1.c21; have q30 := HA1.c30; have q31 := HA1.c31; have q32 := HA1.c32; have q33 := HA1.c33; have q40 := HA1.c40; have q41 := HA1.c41; have q4f := HA1.f40; have q4g := HA1.f41; clear HA0
  go_wp2
  refine bodyPost_ret (v := .tuple #[.agg #[.int .i64 m, .slice A l.length c], .bool (false)]) (by simp [HA1.p0, HA1.p1, results, Try.results47, go_sem]) rfl ?_
  exact after_same HF.out hc HE.out HA1.bl _ _
set_option maxRecDepth 100000 in
set_option maxHeartbeats 4000000 in
theorem accept_xx (m : Int) (A : Option Addr) (c : Nat) (l : List Lv) (d : De) (ok : Nat → Prop) (w : World) (hm : mOk m) (hrt : rtL m l) (hl : l.length ≤ 1000) (hF : Kd.F k59 w ok A l.length l) (hc : l.length ≤ c) (z1 : ¬ d.f0 = 1) (z2 : ¬ d.f0 = 2) :
    Calls Try.prog 47 #[.agg #[.int .i64 m, .slice A l.length c], .agg #[.int .i64 d.f0, .int .i64 d.f1, .int .i64 d.f2, .int .i64 d.f3]] w (AfterPost m l d ok w) := by
  have hu := Try.underlying59
  have hu2 := Try.underlying43
  have hu3 := Try.underlying38
  have HA0 := AX.new w m A l.length c d
  have HF := Sh.mk hF
  obtain ⟨cc, has, hcr⟩ : ∃ cc has, clsR d.f1 = (cc, has) := ⟨_, _, rfl⟩
  have HQ : ∀ W, Sh (Calls Try.prog 40 #[.int .i64 d.f1] W fun e w' => e = .returned (.tuple #[.int .i64 cc, .bool has]) ∧ Below W.heap.size W w') := fun W => ⟨by have h := (class_q d.f1 W).mono (R' := fun e w' => e = .returned (.tuple #[.int .i64 (clsR d.f1).1, .bool (clsR d.f1).2]) ∧ Below W.heap.size W w') (fun e w' ⟨h1, q, h2⟩ => ⟨h1, by subst h2; exact pw_below_drewN (Below.refl _ _) _⟩); rw [hcr] at h; exact h⟩
  have HE : Sh (accR m l d = (m, l, false)) := ⟨by unfold accR; rw [if_neg (by omega), if_neg (by omega), if_neg (by omega), if_neg (by omega), if_neg (by omega)]⟩
  have bb0 : (d.f0 == 1) = false := by simpa using z1
  have bb1 : (d.f0 == 2) = false := by simpa using z2
  clear hcr hF hm hrt z1 z2
  have q20 := HA0.c20; have q21 := HA0.c21; have q30 := HA0.c30; have q31 := HA0.c31; have q32 := HA0.c32; have q33 := HA0.c33; have q40 := HA0.c40; have q41 := HA0.c41; have q4f := HA0.f40; have q4g := HA0.f41
  go_enter Try.func47, Try.ntmps47
  go_wp2_with fail
  (with_reducible refine (HQ _).out.mono ?_); rintro e w2 ⟨rfl, hd⟩; have HA1 := HA0.below hd; clear hd; clear q20 q21 q30 q31 q32 q33 q40 q41 q4f q4g; have q20 := HA1.c20; have q21 := HA1.c21; have q30 := HA1.c30; have q31 := HA1.c31; have q32 := HA1.c32; have q33 := HA1.c33; have q40 := HA1.c40; have q41 := HA1.c41; have q4f := HA1.f40; have q4g := HA1.f41; clear HA0
  go_wp2
  refine bodyPost_ret (v := .tuple #[.agg #[.int .i64 m, .slice A l.length c], .bool (false)]) (by simp [HA1.p0, HA1.p1, results, Try.results47, go_sem]) rfl ?_
  exact after_same HF.out hc HE.out HA1.bl _ _
theorem accept_any (m : Int) (A : Option Addr) (c : Nat) (l : List Lv) (d : De) (ok : Nat → Prop) (w : World) (hm : mOk m) (hrt : rtL m l) (hl : l.length ≤ 1000) (hF : Kd.F k59 w ok A l.length l) (hc : l.length ≤ c) :
    Calls Try.prog 47 #[.agg #[.int .i64 m, .slice A l.length c], .agg #[.int .i64 d.f0, .int .i64 d.f1, .int .i64 d.f2, .int .i64 d.f3]] w (AfterPost m l d ok w) := by
  by_cases z1 : d.f0 = 1
  · by_cases y0 : d.f3 = 0
    · exact accept_10 m A c l d ok w hm hrt hl hF hc z1 y0
    · by_cases y1 : d.f3 = 3
      · exact accept_13 m A c l d ok w hm hrt hl hF hc z1 y0 y1
      · by_cases y2 : d.f3 = 1
        · exact accept_11 m A c l d ok w hm hrt hl hF hc z1 y0 y1 y2
        · exact accept_1x m A c l d ok w hm hrt hl hF hc z1 y0 y1 y2
  · by_cases z2 : d.f0 = 2
    · by_cases y0 : d.f3 = 0
      · exact accept_20 m A c l d ok w hm hrt hl hF hc z2 y0
      · by_cases y1 : d.f3 = 2
        · exact accept_22 m A c l d ok w hm hrt hl hF hc z2 y0 y1
        · exact accept_2x m A c l d ok w hm hrt hl hF hc z2 y0 y1
    · exact accept_xx m A c l d ok w hm hrt hl hF hc z1 z2
end Go.Proofs.Ytpddppipjlagfaa

/- model.Accepts: its contract. No statement is proved here. -/
namespace Go.Proofs.Ytpddppipjlagfaa
set_option linter.unusedVariables false
set_option linter.unusedSimpArgs false
open Go.RowKit Go.Proofs.YtpddppipjlagfaaW.PrintWords Go.Proofs.YtpddppipjlagfaaW.PrintLast Go.Proofs.YtpddppipjlagfaaW.PrintMore Pr Go.Proofs.Ytpddppipjlagfaa.Pure

/-- The parameter's box (a model), and a result's cells. -/
structure RX (w : World) (g h : Nat) (m : Int) (A : Option Addr) (c : Nat) (q : List Lv) (W : World) : Prop where
  b2 : W.heap[g]? = some (.cells #[.int .i64 m, .slice A q.length c] 43 (0, 0))
  b4 : W.heap[h]? = some (.cells #[.int .i64 0, .slice none 0 0] 43 (0, 0))
  gw : w.heap.size ≤ g
  hw : w.heap.size ≤ h
  gh : g ≠ h
  bl : Below w.heap.size w W
  qc : q.length ≤ c
  row : Kd.F k59 W (fun k => w.heap.size ≤ k ∧ k ≠ g ∧ k ≠ h) A q.length q
section
variable {w : World} {g h : Nat} {m : Int} {A : Option Addr} {c : Nat} {q : List Lv} {W W' : World}
theorem RX.below (x : RX w g h m A c q W) (hd : Below W.heap.size W W') : RX w g h m A c q W' :=
  ⟨blk_below x.b2 hd, blk_below x.b4 hd, x.gw, x.hw, x.gh, below_step x.bl hd, x.qc, Kd.F_below x.row hd⟩
theorem RX.c20 (x : RX w g h m A c q W) : W.cell? ⟨g, 0, none⟩ = some (.int .i64 m) := (blk_cell x.b2 0).trans rfl
theorem RX.c21 (x : RX w g h m A c q W) : W.cell? ⟨g, 1, none⟩ = some (.slice A q.length c) := (blk_cell x.b2 1).trans rfl
theorem RX.f20 (x : RX w g h m A c q W) : W.frozen? ⟨g, 0, none⟩ = false := blk_frozen x.b2 0
theorem RX.f21 (x : RX w g h m A c q W) : W.frozen? ⟨g, 1, none⟩ = false := blk_frozen x.b2 1
theorem RX.c40 (x : RX w g h m A c q W) : W.cell? ⟨h, 0, none⟩ = some (.int .i64 0) := (blk_cell x.b4 0).trans rfl
theorem RX.c41 (x : RX w g h m A c q W) : W.cell? ⟨h, 1, none⟩ = some (.slice none 0 0) := (blk_cell x.b4 1).trans rfl
theorem RX.f40 (x : RX w g h m A c q W) : W.frozen? ⟨h, 0, none⟩ = false := blk_frozen x.b4 0
theorem RX.f41 (x : RX w g h m A c q W) : W.frozen? ⟨h, 1, none⟩ = false := blk_frozen x.b4 1
theorem RX.p0 (r : RX w g h m A c q W) (x : Value) : (W.setCell ⟨h, 0, none⟩ x).cell? ⟨h, 0, none⟩ = some x := by rw [blk_cell (blk_set r.b4 0 x) 0]; rfl
theorem RX.p1 (r : RX w g h m A c q W) (x y : Value) : ((W.setCell ⟨h, 0, none⟩ x).setCell ⟨h, 1, none⟩ y).cell? ⟨h, 1, none⟩ = some y := by rw [blk_cell (blk_set (blk_set r.b4 0 x) 1 y) 1]; rfl
/-- What is handed back. -/
theorem RX.out (r : RX w g h m A c q W) (x y : Value) : Kd.F k59 ((W.setCell ⟨h, 0, none⟩ x).setCell ⟨h, 1, none⟩ y) (fun k => w.heap.size ≤ k) A q.length q ∧ Below w.heap.size w ((W.setCell ⟨h, 0, none⟩ x).setCell ⟨h, 1, none⟩ y) :=
  ⟨Kd.F_mono (Kd.F_far (p := ⟨h, 1, none⟩) (Kd.F_far (p := ⟨h, 0, none⟩) r.row (fun k hk => hk.2.2) _) (fun k hk => hk.2.2) _) (fun _ hk => hk.1), below_set (below_set r.bl r.hw) r.hw⟩
/-- The next model takes its place. -/
theorem RX.next {W2 : World} (r : RX w g h m A c q W2) {A2 : Option Addr} {c2 : Nat} {q2 : List Lv} (hc : q2.length ≤ c2) (hr : Kd.F k59 W2 (fun k => w.heap.size ≤ k ∧ k ≠ g ∧ k ≠ h) A2 q2.length q2) :
    RX w g h m A2 c2 q2 ((W2.setCell ⟨g, 0, none⟩ (.int .i64 m)).setCell ⟨g, 1, none⟩ (.slice A2 q2.length c2)) := by
  refine ⟨?_, ?_, r.gw, r.hw, r.gh, ?_, hc, ?_⟩
  · exact blk_put (cs := #[.int .i64 m, .slice A q.length c]) (blk_put (cs := #[.int .i64 m, .slice A q.length c]) r.b2 0 _ rfl) 1 _ rfl
  · exact blk_far (blk_far r.b4 (show h ≠ g from fun e => r.gh e.symm) _) (show h ≠ g from fun e => r.gh e.symm) _
  · exact below_set (below_set r.bl r.gw) r.gw
  · exact Kd.F_far (p := ⟨g, 1, none⟩) (Kd.F_far (p := ⟨g, 0, none⟩) hr (fun k hk => hk.2.1) _) (fun k hk => hk.2.1) _
end
def AccPost (m : Int) (l : List Lv) (D : List De) (w : World) (e : Ending) (w' : World) : Prop := ∃ (A' : Option Addr) (c' : Nat), e = .returned (.tuple #[.agg #[.int .i64 m, .slice A' (accsL m l D).1.length c'], .int .i64 ((accsL m l D).2.1 : Nat), .bool (accsL m l D).2.2]) ∧ (accsL m l D).1.length ≤ c' ∧ Kd.F k59 w' (fun k => w.heap.size ≤ k) A' (accsL m l D).1.length (accsL m l D).1 ∧ Below w.heap.size w w'
/-- How far deeds go, from a place on. -/
def plusN (i : Nat) (r : List Lv × Nat × Bool) : List Lv × Nat × Bool := (r.1, i + r.2.1, r.2.2)
theorem accs_ok (m : Int) (q : List Lv) (D : List De) (i : Nat) (d : De) (h : D[i]? = some d) {r1 : Int} {r2 : List Lv} (ha : accR m q d = (r1, r2, true)) : plusN i (accsL m q (D.drop i)) = plusN (i + 1) (accsL m r2 (D.drop (i + 1))) := by
  obtain ⟨h1, h2⟩ := List.getElem?_eq_some_iff.1 h
  rw [List.drop_eq_getElem_cons h1, h2, accsL, ha, if_pos rfl]
  unfold plusN
  dsimp only
  rw [show i + ((accsL m r2 (D.drop (i + 1))).2.1 + 1) = i + 1 + (accsL m r2 (D.drop (i + 1))).2.1 by omega]
theorem accs_no (m : Int) (q : List Lv) (D : List De) (i : Nat) (d : De) (h : D[i]? = some d) {r1 : Int} {r2 : List Lv} (ha : accR m q d = (r1, r2, false)) : plusN i (accsL m q (D.drop i)) = (q, i, false) := by
  obtain ⟨h1, h2⟩ := List.getElem?_eq_some_iff.1 h
  rw [List.drop_eq_getElem_cons h1, h2, accsL, ha, if_neg (by simp)]
  rfl
theorem acc_post {w : World} {g h : Nat} {m : Int} {A : Option Addr} {c : Nat} {q : List Lv} {W : World} (r : RX w g h m A c q W) {l : List Lv} {D : List De} {n : Nat} {b : Bool} (e : accsL m l D = (q, n, b)) (x y : Value) :
    AccPost m l D w (.returned (.tuple #[.agg #[.int .i64 m, .slice A q.length c], .int .i64 (n : Int), .bool b])) ((W.setCell ⟨h, 0, none⟩ x).setCell ⟨h, 1, none⟩ y) := by
  unfold AccPost
  rw [e]
  exact ⟨A, c, rfl, r.qc, (r.out x y).1, (r.out x y).2⟩
set_option maxRecDepth 100000 in
set_option maxHeartbeats 4000000 in
theorem accepts_any (m : Int) (A : Option Addr) (c : Nat) (l : List Lv) (B : Option Addr) (cd : Nat) (D : List De) (w : World) (hm : mOk m) (hrt : rtL m l) (hlen : l.length + D.length ≤ 1000) (hr : Kd.C k59 w A l.length l) (hc : l.length ≤ c) (hD : Kd.C k38 w B D.length D) (hcd : D.length ≤ cd) :
    Calls Try.prog 16 #[.agg #[.int .i64 m, .slice A l.length c], .slice B D.length cd] w (AccPost m l D w) := by
  have hu := Try.underlying59
  have hu2 := Try.underlying43
  have hu3 := Try.underlying38
  obtain ⟨W0, hW0⟩ : ∃ W0, W0 = (w.alloc (.cells #[.int .i64 m, .slice A l.length c] 43)).alloc (.cells #[.int .i64 0, .slice none 0 0] 43) := ⟨_, rfl⟩
  have HA0 : RA w m A l.length c W0 := by rw [hW0]; exact RA.new w m A l.length c
  have HQ := Sh.mk (api_Live_29.calls A c l l W0 (Kd.C_below hr HA0.bl) hc (by unfold api_Live_29.f; rw [if_pos (by omega)]))
  have HD := Sh.mk hD
  have HM := Sh.mk hm
  have HRT := Sh.mk hrt
  have q0 : W0.cell? ⟨w.heap.size, 1, none⟩ = some (.slice A l.length c) := (blk_cell HA0.b3 1).trans rfl
  clear hr hD hm hrt
  rw [hW0] at HA0 HQ q0
  go_enter Try.func16, Try.ntmps16
  go_wp2_with fail
  (with_reducible refine HQ.out.mono ?_); rintro e w2 ⟨v, rfl, hv, hd⟩
  obtain ⟨Aq, cq, e2⟩ := Kd.R_slice hv
  subst e2
  have HX : RX w w.heap.size (w.heap.size + 1) m Aq cq l (w2.setCell ⟨w.heap.size, 1, none⟩ (.slice Aq l.length cq)) := by
    have h1 := HA0.below hd
    have hlt := blk_lt HA0.b6
    have h2 := Kd.R_bound hv
    have h3 : Kd.F k59 w2 (fun k => w.heap.size ≤ k ∧ k ≠ w.heap.size ∧ k ≠ w.heap.size + 1) Aq l.length l := fun W' hW' => (Kd.R_reads' (Kd.R_step (w1 := W') h2 (fun k hk hlt2 => hW' k (by have := hk.2.1; omega) hlt2))).2.2
    exact ⟨blk_put (cs := #[.int .i64 m, .slice A l.length c]) h1.b3 1 _ rfl, blk_far h1.b6 (show w.heap.size + 1 ≠ w.heap.size by omega) _, Nat.le_refl _, by omega, by omega, below_set h1.bl (Nat.le_refl _), (Kd.R_reads' hv).2.1, Kd.F_far (p := ⟨w.heap.size, 1, none⟩) h3 (fun k hk => hk.2.1) _⟩
  have q0 : w2.cell? ⟨w.heap.size, 1, none⟩ = some (.slice A l.length c) := (blk_cell (HA0.below hd).b3 1).trans rfl
  have q0f := blk_frozen (HA0.below hd).b3 1
  clear hv hd hW0
  clear HA0 HQ
  go_wp2
  go_loopw [17] (fun vi wr => ∃ (i : Nat) (q : List Lv) (Aq : Option Addr) (cq : Nat), i ≤ D.length ∧ vi = .int .i64 i ∧ Sh (rtL m q ∧ q.length ≤ l.length + i) ∧ Sh (accsL m l D = plusN i (accsL m q (D.drop i))) ∧ RX w w.heap.size (w.heap.size + 1) m Aq cq q wr) (fun vi _ => D.length - (intOf vi).toNat)
  case atStart => exact ⟨0, l, Aq, cq, Nat.zero_le _, rfl, ⟨HRT.out, by omega⟩, ⟨by simp [plusN]⟩, HX⟩
  case round =>
    clear q0 q0f HX
    obtain ⟨i, q, Aq, cq, hi, rfl, HR, HV, HX⟩ := hrel
    by_cases hlt : i < D.length
    · obtain ⟨ad, rfl, hx0, hx1, hx2, hx3⟩ := at_T38 (Kd.C_below HD.out HX.bl) (i : Int) (by omega) (by omega)
      obtain ⟨d, hd⟩ : ∃ x, x = rd_T38 D (i : Int) := ⟨_, rfl⟩
      rw [← hd] at hx0 hx1 hx2 hx3
      rw [Int.toNat_natCast] at hx0 hx1 hx2 hx3
      have hdd : D[i]? = some d := by
        rw [hd, rd_T38, Int.toNat_natCast, List.getD_eq_getElem?_getD, List.getElem?_eq_getElem hlt]
        rfl
      clear hd
      obtain ⟨r1, r2, r3, har⟩ : ∃ a b c, accR m q d = (a, b, c) := ⟨_, _, _, rfl⟩
      have HX1 := HX.below (below_alloc (Below.refl _ _) (.cells #[.int .i64 d.f0, .int .i64 d.f1, .int .i64 d.f2, .int .i64 d.f3] 38))
      have hq := after_any m Aq cq q d _ _ HM.out HR.out.1 (by have := HR.out.2; omega) HX1.row HX1.qc
      unfold AfterPost at hq
      rw [har] at hq
      have HQ := Sh.mk hq
      clear hq
      have q20 := HX1.c20
      have q21 := HX1.c21
      cases r3 with
      | true =>
        have hok := accR_ok HM.out HR.out.1 (d := d) (by rw [har])
        rw [har] at hok
        obtain ⟨h1, h2, h3⟩ := hok
        dsimp only at h1 h2 h3
        subst h1
        have HR2 : Sh (rtL r1 r2 ∧ r2.length ≤ l.length + (i + 1)) := ⟨h2, by have := HR.out.2; omega⟩
        have HS := Sh.mk (HV.out.trans (accs_ok r1 q D i d hdd har))
        clear har h2 h3 hdd
        go_wp2_with fail
        (with_reducible refine HQ.out.mono ?_); rintro e w2 ⟨A2, c2, rfl, hc2, hF2, hb⟩
        have HX3 := (HX1.below hb).below (below_alloc (Below.refl _ _) (.cells #[.int .i64 r1, .slice A2 r2.length c2] 43))
        have HF : Sh (Kd.F k59 (w2.alloc (.cells #[.int .i64 r1, .slice A2 r2.length c2] 43)) (fun k => w.heap.size ≤ k ∧ k ≠ w.heap.size ∧ k ≠ w.heap.size + 1) A2 r2.length r2) := ⟨Kd.F_mono (Kd.F_alloc hF2 _) (fun k hk => by
          rcases hk with hk | hk
          · exact hk
          · have h5 := blk_lt HX1.b4; omega)⟩
        have HC2 := Sh.mk hc2
        clear hF2 hb q20 q21 hc2
        have q20 := HX3.c20
        have q21 := HX3.c21
        have q2f := HX3.f20
        have q2g := HX3.f21
        go_wp2
        go_roundw
        case rel => exact ⟨i + 1, r2, A2, c2, by omega, by go_num, ⟨HR2.out⟩, ⟨HS.out⟩, HX3.next HC2.out HF.out⟩
        case measure => simp [intOf]; omega
      | false =>
        have HS := Sh.mk (HV.out.trans (accs_no m q D i d hdd har))
        clear har hdd
        go_wp2_with fail
        (with_reducible refine HQ.out.mono ?_); rintro e w2 ⟨A2, c2, rfl, hc2, hF2, hb⟩
        have HX3 := (HX1.below hb).below (below_alloc (Below.refl _ _) (.cells #[.int .i64 r1, .slice A2 r2.length c2] 43))
        clear hF2 hb q20 q21 hc2
        have q20 := HX3.c20
        have q21 := HX3.c21
        have q40 := HX3.c40
        have q41 := HX3.c41
        have q4f := HX3.f40
        have q4g := HX3.f41
        go_wp2
        refine bodyPost_ret (v := .tuple #[.agg #[.int .i64 m, .slice Aq q.length cq], .int .i64 (i : Int), .bool false]) (by simp [HX3.p0, HX3.p1, results, Try.results16, go_sem]) rfl ?_
        exact acc_post HX3 HS.out _ _
    · obtain rfl : i = D.length := by omega
      have HS : Sh (accsL m l D = (q, D.length, true)) := ⟨by rw [HV.out, List.drop_length]; rfl⟩
      have q20 := HX.c20
      have q21 := HX.c21
      have q40 := HX.c40
      have q41 := HX.c41
      have q4f := HX.f40
      have q4g := HX.f41
      go_wp2
      refine bodyPost_ret (v := .tuple #[.agg #[.int .i64 m, .slice Aq q.length cq], .int .i64 (D.length : Int), .bool true]) (by simp [HX.p0, HX.p1, results, Try.results16, go_sem]) rfl ?_
      exact acc_post HX HS.out _ _
end Go.Proofs.Ytpddppipjlagfaa

/- The document's Accepts, of a model without stacks: its contract. No statement is proved here. -/
namespace Go.Proofs.Ytpddppipjlagfaa
set_option linter.unusedVariables false
set_option linter.unusedSimpArgs false
open Go.RowKit Go.Proofs.YtpddppipjlagfaaW.PrintWords Go.Proofs.YtpddppipjlagfaaW.PrintLast Go.Proofs.YtpddppipjlagfaaW.PrintMore Pr Go.Proofs.Ytpddppipjlagfaa.Pure

set_option maxRecDepth 100000 in
set_option maxHeartbeats 8000000 in
theorem raccepts_any (m : Int) (B : Option Addr) (cd : Nat) (D : List De) (w : World) (hm : mOk m) (hlen : D.length ≤ 1000) (hD : Kd.C k38 w B D.length D) (hcd : D.length ≤ cd) :
    Calls Try.prog 37 #[.agg #[.int .i64 m, .slice none 0 0], .slice B D.length cd] w (AccPost m [] D w) := by
  have hu := Try.underlying59
  have hu2 := Try.underlying43
  have hu3 := Try.underlying38
  have HD := Sh.mk hD
  have HM := Sh.mk hm
  have HA0 := RA.new w m none 0 0
  have HX : RX w w.heap.size (w.heap.size + 1) m none 0 [] ((w.alloc (.cells #[.int .i64 m, .slice none 0 0] 43)).alloc (.cells #[.int .i64 0, .slice none 0 0] 43)) :=
    ⟨HA0.b3, HA0.b6, Nat.le_refl _, by omega, by omega, HA0.bl, Nat.le_refl _, Kd.F_nil _ _ _⟩
  clear hD hm HA0
  go_enter Try.func37, Try.ntmps37
  go_wp2
  go_loopw [7] (fun vi wr => ∃ (i : Nat) (q : List Lv) (Aq : Option Addr) (cq : Nat), i ≤ D.length ∧ vi = .int .i64 i ∧ Sh (rtL m q ∧ q.length ≤ i) ∧ Sh (accsL m [] D = plusN i (accsL m q (D.drop i))) ∧ RX w w.heap.size (w.heap.size + 1) m Aq cq q wr) (fun vi _ => D.length - (intOf vi).toNat)
  case atStart => exact ⟨0, [], none, 0, Nat.zero_le _, rfl, ⟨trivial, Nat.le_refl _⟩, ⟨by simp [plusN]⟩, HX⟩
  case round =>
    clear HX
    obtain ⟨i, q, Aq, cq, hi, rfl, HR, HV, HX⟩ := hrel
    by_cases hlt : i < D.length
    · obtain ⟨ad, rfl, hx0, hx1, hx2, hx3⟩ := at_T38 (Kd.C_below HD.out HX.bl) (i : Int) (by omega) (by omega)
      obtain ⟨d, hd⟩ : ∃ x, x = rd_T38 D (i : Int) := ⟨_, rfl⟩
      rw [← hd] at hx0 hx1 hx2 hx3
      rw [Int.toNat_natCast] at hx0 hx1 hx2 hx3
      have hdd : D[i]? = some d := by
        rw [hd, rd_T38, Int.toNat_natCast, List.getD_eq_getElem?_getD, List.getElem?_eq_getElem hlt]
        rfl
      clear hd
      obtain ⟨r1, r2, r3, har⟩ : ∃ a b c, accR m q d = (a, b, c) := ⟨_, _, _, rfl⟩
      have HQ : ∀ W, Below wr.heap.size wr W → Sh (Calls Try.prog 47 #[.agg #[.int .i64 m, .slice Aq q.length cq], .agg #[.int .i64 d.f0, .int .i64 d.f1, .int .i64 d.f2, .int .i64 d.f3]] W fun e w' => ∃ (A' : Option Addr) (c' : Nat), e = .returned (.tuple #[.agg #[.int .i64 r1, .slice A' r2.length c'], .bool r3]) ∧ r2.length ≤ c' ∧ Kd.F k59 w' (fun k => ((w.heap.size ≤ k ∧ k ≠ w.heap.size ∧ k ≠ w.heap.size + 1) ∧ k < wr.heap.size) ∨ W.heap.size ≤ k) A' r2.length r2 ∧ Below W.heap.size W w') := fun W hW => ⟨by
        have h := accept_any m Aq cq q d _ W HM.out HR.out.1 (by have := HR.out.2; omega) (Kd.F_old HX.row hW) HX.qc
        unfold AfterPost at h
        rw [har] at h
        exact h⟩
      have q20 := HX.c20
      have q21 := HX.c21
      have HE : ∀ W, Below wr.heap.size wr W → Sh ((W.cell? ⟨w.heap.size, 0, none⟩ = some (.int .i64 m) ∧ W.cell? ⟨w.heap.size, 1, none⟩ = some (.slice Aq q.length cq)) ∧ W.cell? (ad.add (i * 4)) = some (.int .i64 d.f0) ∧ W.cell? ⟨(ad.add (i * 4)).block, (ad.add (i * 4)).off + 1, none⟩ = some (.int .i64 d.f1) ∧ W.cell? ⟨(ad.add (i * 4)).block, (ad.add (i * 4)).off + 2, none⟩ = some (.int .i64 d.f2) ∧ W.cell? ⟨(ad.add (i * 4)).block, (ad.add (i * 4)).off + 3, none⟩ = some (.int .i64 d.f3)) := fun W hW => ⟨⟨(HX.below hW).c20, (HX.below hW).c21⟩, (hW.cell (World.block_lt_of_cell? _ _ hx0)).trans hx0, (hW.cell (World.block_lt_of_cell? _ _ hx1)).trans hx1, (hW.cell (World.block_lt_of_cell? _ _ hx2)).trans hx2, (hW.cell (World.block_lt_of_cell? _ _ hx3)).trans hx3⟩
      have HZ0 : Sh (Below wr.heap.size wr wr.drew) := ⟨(Below.refl _ _).drew⟩
      have HZ1 : Sh (Below wr.heap.size wr (wr.alloc (.cells #[.int .i64 0, .slice none 0 0] 43)).drew) := ⟨(below_alloc (Below.refl _ _) _).drew⟩
      have HN : Sh ((wr.alloc (.cells #[.int .i64 0, .slice none 0 0] 43)).drew.heap[wr.heap.size]? = some (.cells #[.int .i64 0, .slice none 0 0] 43 (0, 0))) := ⟨blk_drew (blk_new wr _)⟩
      go_wp2
      go_region_held3 (fun W => (W.cell? ⟨w.heap.size, 0, none⟩ = some (.int .i64 m) ∧ W.cell? ⟨w.heap.size, 1, none⟩ = some (.slice Aq q.length cq)) ∧ W.cell? (ad.add (i * 4)) = some (.int .i64 d.f0) ∧ W.cell? ⟨(ad.add (i * 4)).block, (ad.add (i * 4)).off + 1, none⟩ = some (.int .i64 d.f1) ∧ W.cell? ⟨(ad.add (i * 4)).block, (ad.add (i * 4)).off + 2, none⟩ = some (.int .i64 d.f2) ∧ W.cell? ⟨(ad.add (i * 4)).block, (ad.add (i * 4)).off + 3, none⟩ = some (.int .i64 d.f3)) (first | exact (HE _ (Below.refl _ _)).out | exact (HE _ HZ0.out).out | exact (HE _ (below_alloc (Below.refl _ _) _)).out | exact (HE _ HZ1.out).out | exact (HE _ HB2.out).out | exact (HE _ (below_alloc HB2.out _)).out | exact (HE _ (below_set (below_set HB2.out (Nat.le_refl _)) (Nat.le_refl _))).out | exact (HE _ (below_set HB2.out (Nat.le_refl _))).out) (first | (go_at_call 47; (with_reducible refine (HQ _ HZ0.out).out.mono ?_); rintro e w2 ⟨A2, c2, rfl, hc2, hF2, hb⟩; have HB2 := Sh.mk (below_step HZ0.out hb); have HF2 := Sh.mk hF2; have HC2 := Sh.mk hc2; clear hF2 hb hc2) | (go_at_call 47; (with_reducible refine (HQ _ HZ1.out).out.mono ?_); rintro e w2 ⟨A2, c2, rfl, hc2, hF2, hb⟩; have HB2 := Sh.mk (below_step HZ1.out hb); have HN2 := Sh.mk (blk_below HN.out hb); have hz0 := (blk_cell HN2.out 0).trans rfl; have hz1 := (blk_cell HN2.out 1).trans rfl; have hz2 := blk_frozen HN2.out 0; have hz3 := blk_frozen HN2.out 1; have HF2 := Sh.mk hF2; have HC2 := Sh.mk hc2; clear hF2 hb hc2))
      · have HX3 := (HX.below HB2.out).below (below_alloc (Below.refl _ _) (.cells #[.int .i64 r1, .slice A2 r2.length c2] 43))
        have HF : Sh (Kd.F k59 (w2.alloc (.cells #[.int .i64 r1, .slice A2 r2.length c2] 43)) (fun k => w.heap.size ≤ k ∧ k ≠ w.heap.size ∧ k ≠ w.heap.size + 1) A2 r2.length r2) := ⟨Kd.F_mono (Kd.F_alloc HF2.out _) (fun k hk => by
          rcases hk with hk | hk
          · exact hk.1
          · have h5 := blk_lt HX.b4; have h6 : wr.heap.size ≤ k := hk; omega)⟩
        clear q20 q21 hx0 hx1 hx2 hx3
        have q20 := HX3.c20
        have q21 := HX3.c21
        have q40 := HX3.c40
        have q41 := HX3.c41
        have q4f := HX3.f40
        have q4g := HX3.f41
        have q2f := HX3.f20
        have q2g := HX3.f21
        cases r3 with
        | true =>
          have hok := accR_ok HM.out HR.out.1 (d := d) (by rw [har])
          rw [har] at hok
          obtain ⟨h1, h2, h3⟩ := hok
          dsimp only at h1 h2 h3
          subst h1
          have HR2 : Sh (rtL r1 r2 ∧ r2.length ≤ i + 1) := ⟨h2, by have := HR.out.2; omega⟩
          have HS := Sh.mk (HV.out.trans (accs_ok r1 q D i d hdd har))
          clear har h2 h3 hdd
          go_wp2
          go_roundw
          case rel => exact ⟨i + 1, r2, A2, c2, by omega, by go_num, ⟨HR2.out⟩, ⟨HS.out⟩, HX3.next HC2.out HF.out⟩
          case measure => simp [intOf]; omega
        | false =>
          have HS := Sh.mk (HV.out.trans (accs_no m q D i d hdd har))
          clear har hdd
          go_wp2
          refine bodyPost_ret (v := .tuple #[.agg #[.int .i64 m, .slice Aq q.length cq], .int .i64 (i : Int), .bool false]) (by simp [HX3.p0, HX3.p1, results, Try.results37, go_sem]) rfl ?_
          exact acc_post HX3 HS.out _ _
      · have HX3 := HX.below (below_set (below_set (v := .int .i64 r1) (j := 0) HB2.out (Nat.le_refl _)) (v := .slice A2 r2.length c2) (j := 1) (Nat.le_refl _))
        have HF : Sh (Kd.F k59 ((w2.setCell ⟨wr.heap.size, 0, none⟩ (.int .i64 r1)).setCell ⟨wr.heap.size, 1, none⟩ (.slice A2 r2.length c2)) (fun k => w.heap.size ≤ k ∧ k ≠ w.heap.size ∧ k ≠ w.heap.size + 1) A2 r2.length r2) := ⟨Kd.F_mono (Kd.F_far (p := ⟨wr.heap.size, 1, none⟩) (Kd.F_far (p := ⟨wr.heap.size, 0, none⟩) HF2.out (fun k hk => by
          show k ≠ wr.heap.size
          rcases hk with hk | hk
          · omega
          · have h6 : wr.heap.size + 1 ≤ k := by simpa using hk
            omega) _) (fun k hk => by
          show k ≠ wr.heap.size
          rcases hk with hk | hk
          · omega
          · have h6 : wr.heap.size + 1 ≤ k := by simpa using hk
            omega) _) (fun k hk => by
          rcases hk with hk | hk
          · exact hk.1
          · have h5 := blk_lt HX.b4; have h6 : wr.heap.size + 1 ≤ k := (by simpa using hk); omega)⟩
        have q80 : ((w2.setCell ⟨wr.heap.size, 0, none⟩ (.int .i64 r1)).setCell ⟨wr.heap.size, 1, none⟩ (.slice A2 r2.length c2)).cell? ⟨wr.heap.size, 0, none⟩ = some (.int .i64 r1) := (blk_cell (blk_put (cs' := #[.int .i64 r1, .slice A2 r2.length c2]) (blk_put (cs' := #[.int .i64 r1, .slice none 0 0]) HN2.out 0 _ rfl) 1 _ rfl) 0).trans rfl
        have q81 : ((w2.setCell ⟨wr.heap.size, 0, none⟩ (.int .i64 r1)).setCell ⟨wr.heap.size, 1, none⟩ (.slice A2 r2.length c2)).cell? ⟨wr.heap.size, 1, none⟩ = some (.slice A2 r2.length c2) := (blk_cell (blk_put (cs' := #[.int .i64 r1, .slice A2 r2.length c2]) (blk_put (cs' := #[.int .i64 r1, .slice none 0 0]) HN2.out 0 _ rfl) 1 _ rfl) 1).trans rfl
        generalize ((w2.setCell ⟨wr.heap.size, 0, none⟩ (.int .i64 r1)).setCell ⟨wr.heap.size, 1, none⟩ (.slice A2 r2.length c2)) = w3 at HX3 HF q80 q81 ⊢
        clear hz0 hz1 hz2 hz3
        clear q20 q21 hx0 hx1 hx2 hx3
        have q20 := HX3.c20
        have q21 := HX3.c21
        have q40 := HX3.c40
        have q41 := HX3.c41
        have q4f := HX3.f40
        have q4g := HX3.f41
        have q2f := HX3.f20
        have q2g := HX3.f21
        cases r3 with
        | true =>
          have hok := accR_ok HM.out HR.out.1 (d := d) (by rw [har])
          rw [har] at hok
          obtain ⟨h1, h2, h3⟩ := hok
          dsimp only at h1 h2 h3
          subst h1
          have HR2 : Sh (rtL r1 r2 ∧ r2.length ≤ i + 1) := ⟨h2, by have := HR.out.2; omega⟩
          have HS := Sh.mk (HV.out.trans (accs_ok r1 q D i d hdd har))
          clear har h2 h3 hdd
          go_wp2
          go_roundw
          case rel => exact ⟨i + 1, r2, A2, c2, by omega, by go_num, ⟨HR2.out⟩, ⟨HS.out⟩, HX3.next HC2.out HF.out⟩
          case measure => simp [intOf]; omega
        | false =>
          have HS := Sh.mk (HV.out.trans (accs_no m q D i d hdd har))
          clear har hdd
          go_wp2
          refine bodyPost_ret (v := .tuple #[.agg #[.int .i64 m, .slice Aq q.length cq], .int .i64 (i : Int), .bool false]) (by simp [HX3.p0, HX3.p1, results, Try.results37, go_sem]) rfl ?_
          exact acc_post HX3 HS.out _ _
    · obtain rfl : i = D.length := by omega
      have HS : Sh (accsL m [] D = (q, D.length, true)) := ⟨by rw [HV.out, List.drop_length]; rfl⟩
      have q20 := HX.c20
      have q21 := HX.c21
      have q40 := HX.c40
      have q41 := HX.c41
      have q4f := HX.f40
      have q4g := HX.f41
      go_wp2
      refine bodyPost_ret (v := .tuple #[.agg #[.int .i64 m, .slice Aq q.length cq], .int .i64 (D.length : Int), .bool true]) (by simp [HX.p0, HX.p1, results, Try.results37, go_sem]) rfl ?_
      exact acc_post HX HS.out _ _
end Go.Proofs.Ytpddppipjlagfaa

/- Accepts: a contract that reads. No statement is proved here. -/
namespace Go.Proofs.Ytpddppipjlagfaa
set_option linter.unusedVariables false
set_option linter.unusedSimpArgs false
open Go.RowKit Go.Proofs.YtpddppipjlagfaaW.PrintWords Go.Proofs.YtpddppipjlagfaaW.PrintLast Go.Proofs.YtpddppipjlagfaaW.PrintMore Pr Go.Proofs.Ytpddppipjlagfaa.Pure

section
variable {m : Int} {v : Value} {l : List Lv} {w : World}
theorem accepts_anyR (hm : mOk m) (hr : rtL m l) {D : List De} (hlen : l.length + D.length ≤ 1000) (h : Rd w v l) {B : Option Addr} {cd : Nat} (hD : Kd.C k38 w B D.length D) (hcd : D.length ≤ cd) :
    Calls Try.prog 16 #[.agg #[.int .i64 m, v], .slice B D.length cd] w fun e w' => ∃ u, e = .returned (.tuple #[.agg #[.int .i64 m, u], .int .i64 ((accsL m l D).2.1 : Nat), .bool (accsL m l D).2.2]) ∧ Rd w' u (accsL m l D).1 ∧ Below w.heap.size w w' := by
  obtain ⟨A, c, rfl, h2, h3⟩ := h
  exact (accepts_any m A c l B cd D w hm hr hlen h3 h2 hD hcd).mono (fun e w' ⟨A', c', h4, h5, h6, h7⟩ => ⟨_, h4, Rd.ofF h5 h6, h7⟩)
end
end Go.Proofs.Ytpddppipjlagfaa

/- Deeds by numbers, and how far they are accepted: contracts that read, and what they answer. No statement is proved here. -/
namespace Go.Proofs.Ytpddppipjlagfaa
set_option linter.unusedVariables false
set_option linter.unusedSimpArgs false
open Go.RowKit Go.Proofs.YtpddppipjlagfaaW.PrintWords Go.Proofs.YtpddppipjlagfaaW.PrintLast Go.Proofs.YtpddppipjlagfaaW.PrintMore Pr Go.Proofs.Ytpddppipjlagfaa.Pure

theorem accs_rt {m : Int} (hm : mOk m) (D : List De) : ∀ l : List Lv, rtL m l → rtL m (accsL m l D).1 ∧ (accsL m l D).1.length ≤ l.length + D.length := by
  induction D with
  | nil => intro l h; exact ⟨h, Nat.le_refl _⟩
  | cons d D ih =>
    intro l h
    rw [accsL]
    split
    · next c =>
      obtain ⟨h1, h2, h3⟩ := accR_ok hm h c
      obtain ⟨h4, h5⟩ := ih _ h2
      exact ⟨h4, by rw [List.length_cons]; dsimp only; omega⟩
    · exact ⟨h, by simp⟩
theorem accs_app (m : Int) (P S : List De) : ∀ l : List Lv, ((accsL m l P).2.2 = true → (accsL m l P).2.1 = P.length ∧ accsL m l (P ++ S) = ((accsL m (accsL m l P).1 S).1, P.length + (accsL m (accsL m l P).1 S).2.1, (accsL m (accsL m l P).1 S).2.2)) ∧ ((accsL m l P).2.2 = false → accsL m l (P ++ S) = accsL m l P) := by
  induction P with
  | nil => intro l; exact ⟨fun _ => ⟨rfl, by simp [accsL]⟩, fun h => by simp [accsL] at h⟩
  | cons d P ih =>
    intro l
    rw [List.cons_append, accsL, accsL]
    split
    · obtain ⟨h1, h2⟩ := ih (accR m l d).2.1
      refine ⟨fun h => ?_, fun h => ?_⟩
      · obtain ⟨h3, h4⟩ := h1 h
        dsimp only
        rw [h4]
        exact ⟨by rw [h3, List.length_cons], by dsimp only; rw [List.length_cons]; simp only [Prod.mk.injEq, true_and, and_true]; omega⟩
      · rw [h2 h]
    · exact ⟨fun h => by simp at h, fun _ => rfl⟩
theorem accs_cut {m : Int} (D : List De) (K : Nat) (hK : K ≤ D.length) {q : List Lv} {n : Nat} {ok : Bool} (h : accsL m [] (D.take K) = (q, n, ok)) :
    (ok = true → n = K ∧ accsL m [] D = ((accsL m q (D.drop K)).1, K + (accsL m q (D.drop K)).2.1, (accsL m q (D.drop K)).2.2)) ∧ (ok = false → accsL m [] D = (q, n, false)) := by
  have h1 := accs_app m (D.take K) (D.drop K) []
  rw [List.take_append_drop, h] at h1
  dsimp only at h1
  have hl : (D.take K).length = K := by rw [List.length_take]; omega
  rw [hl] at h1
  exact ⟨h1.1, fun e => by rw [h1.2 e, e]⟩
end Go.Proofs.Ytpddppipjlagfaa
