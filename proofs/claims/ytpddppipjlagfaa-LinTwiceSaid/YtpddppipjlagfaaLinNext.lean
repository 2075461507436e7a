/- lin.next: its contract. No statement is proved here. -/
import Derived.Test.YtpddppipjlagfaaLinLaw
namespace Go.Proofs.Ytpddppipjlagfaa
set_option linter.unusedVariables false
set_option linter.unusedSimpArgs false
open Go.RowKit Go.Proofs.YtpddppipjlagfaaW.PrintWords Go.Proofs.YtpddppipjlagfaaW.PrintLast Go.Proofs.YtpddppipjlagfaaW.PrintMore Pr Go.Proofs.Ytpddppipjlagfaa.Pure

theorem ahead_any (Y X : Oq) (W : World) : Calls Try.prog 28 #[.agg #[.int .i64 Y.f0.f0, .int .i64 Y.f0.f1, .int .i64 Y.f0.f2, .int .i64 Y.f0.f3, .int .i64 Y.f1, .int .i64 Y.f2], .agg #[.int .i64 X.f0.f0, .int .i64 X.f0.f1, .int .i64 X.f0.f2, .int .i64 X.f0.f3, .int .i64 X.f1, .int .i64 X.f2]] W fun e w' => e = .returned (.bool (ahB Y X)) ∧ Below W.heap.size W w' :=
  lin_ahead.calls _ _ _ _ _ _ _ _ _ _ _ _ _ W (ahead_is Y X)
theorem cont_any (o : List Int) (n : Int) (A : Option Addr) (c : Nat) (W : World) (h : Kd.C (Kd.int .i64) W A o.length o) (hc : o.length ≤ c) (hl : o.length ≤ 1000) :
    Calls Try.prog 41 #[.slice A o.length c, .int .i64 n] W fun e w' => e = .returned (.bool (decide (n ∈ o))) ∧ Below W.heap.size W w' := by
  obtain ⟨k, hk⟩ := (contains_ev o n (by omega)).rounds
  exact (slices_Contains_int_int.calls k A c o n _ W h hc hk).mono (fun e w' ⟨h1, h2⟩ => ⟨h1, h2.below⟩)
theorem R_one {W : World} {g : Nat} {x : De} (hb : W.heap[g]? = some (.cells #[.int .i64 x.f0, .int .i64 x.f1, .int .i64 x.f2, .int .i64 x.f3] 38 (0, 0))) : Kd.R k38 38 W g (fun _ => True) (.slice (some ⟨g, 0, none⟩) 1 1) [x] :=
  ⟨fun _ _ => trivial, [.int .i64 x.f0, .int .i64 x.f1, .int .i64 x.f2, .int .i64 x.f3], ⟨rfl, .inr ⟨g, 1, #[.int .i64 x.f0, .int .i64 x.f1, .int .i64 x.f2, .int .i64 x.f3], rfl, Nat.le_refl _, hb, Nat.le_refl _, by decide, rfl, rfl⟩⟩, ⟨rfl, fun j p hj => by
    cases j with
    | zero =>
      obtain rfl : x = p := by simpa using hj
      exact k38_mkM _ _ _ x
    | succ j => simp at hj⟩⟩
theorem accs_one (m : Int) (q : List Lv) (d : De) : (accR m q d).2.2 = (accsL m q [d]).2.2 := by
  rw [accsL]
  split
  · next h => rw [h]; rfl
  · next h => simpa using h
theorem accs_one1 {m : Int} {q : List Lv} {d : De} (h : (accR m q d).2.2 = true) : (accsL m q [d]).1 = (accR m q d).2.1 := by
  rw [accsL, if_pos h]
  rfl
structure NX (w : World) (m : Int) (A : Option Addr) (c : Nat) (q : List Lv) (W : World) : Prop where
  b4 : W.heap[w.heap.size]? = some (.cells #[.int .i64 m, .slice A q.length c] 43 (0, 0))
  b8 : W.heap[w.heap.size + 1]? = some (.cells #[.int .i64 0, .slice none 0 0] 43 (0, 0))
  bl : Below w.heap.size w W
section
variable {w : World} {m : Int} {A : Option Addr} {c : Nat} {q : List Lv} {W W' : World}
theorem NX.below (r : NX w m A c q W) (hd : Below W.heap.size W W') : NX w m A c q W' := ⟨blk_below r.b4 hd, blk_below r.b8 hd, below_step r.bl hd⟩
theorem NX.c40 (r : NX w m A c q W) : W.cell? ⟨w.heap.size, 0, none⟩ = some (.int .i64 m) := (blk_cell r.b4 0).trans rfl
theorem NX.c41 (r : NX w m A c q W) : W.cell? ⟨w.heap.size, 1, none⟩ = some (.slice A q.length c) := (blk_cell r.b4 1).trans rfl
theorem NX.c80 (r : NX w m A c q W) : W.cell? ⟨w.heap.size + 1, 0, none⟩ = some (.int .i64 0) := (blk_cell r.b8 0).trans rfl
theorem NX.c81 (r : NX w m A c q W) : W.cell? ⟨w.heap.size + 1, 1, none⟩ = some (.slice none 0 0) := (blk_cell r.b8 1).trans rfl
theorem NX.f4 (r : NX w m A c q W) (j : Nat) : W.frozen? ⟨w.heap.size, j, none⟩ = false := blk_frozen r.b4 j
theorem NX.f8 (r : NX w m A c q W) (j : Nat) : W.frozen? ⟨w.heap.size + 1, j, none⟩ = false := blk_frozen r.b8 j
theorem NX.d80 (r : NX w m A c q W) : ((W.setCell ⟨w.heap.size + 1, 0, none⟩ (.int .i64 m)).setCell ⟨w.heap.size + 1, 1, none⟩ (.slice A q.length c)).cell? ⟨w.heap.size + 1, 0, none⟩ = some (.int .i64 m) :=
  (blk_cell (blk_put (cs' := #[.int .i64 m, .slice A q.length c]) (blk_put (cs' := #[.int .i64 m, .slice none 0 0]) r.b8 0 _ rfl) 1 _ rfl) 0).trans rfl
theorem NX.d81 (r : NX w m A c q W) : ((W.setCell ⟨w.heap.size + 1, 0, none⟩ (.int .i64 m)).setCell ⟨w.heap.size + 1, 1, none⟩ (.slice A q.length c)).cell? ⟨w.heap.size + 1, 1, none⟩ = some (.slice A q.length c) :=
  (blk_cell (blk_put (cs' := #[.int .i64 m, .slice A q.length c]) (blk_put (cs' := #[.int .i64 m, .slice none 0 0]) r.b8 0 _ rfl) 1 _ rfl) 1).trans rfl
theorem NX.put (r : NX w m A c q W) (A2 : Option Addr) (c2 : Nat) (q2 : List Lv) : NX w m A2 c2 q2 ((W.setCell ⟨w.heap.size, 0, none⟩ (.int .i64 m)).setCell ⟨w.heap.size, 1, none⟩ (.slice A2 q2.length c2)) := by
  refine ⟨?_, ?_, below_set (below_set r.bl (Nat.le_refl _)) (Nat.le_refl _)⟩
  · exact blk_put (cs := #[.int .i64 m, .slice A q.length c]) (blk_put (cs := #[.int .i64 m, .slice A q.length c]) r.b4 0 _ rfl) 1 _ rfl
  · exact blk_far (blk_far r.b8 (show w.heap.size + 1 ≠ w.heap.size by omega) _) (show w.heap.size + 1 ≠ w.heap.size by omega) _
theorem NX.far (r : NX w m A c q W) {N : Nat} {A2 : Option Addr} {q2 : List Lv} (h : Kd.F k59 W (fun k => N ≤ k) A2 q2.length q2) (hN : w.heap.size + 1 < N) (u : Value) :
    Kd.F k59 ((((W.setCell ⟨w.heap.size, 0, none⟩ (.int .i64 m)).setCell ⟨w.heap.size, 1, none⟩ u).setCell ⟨w.heap.size + 1, 0, none⟩ (.int .i64 m)).setCell ⟨w.heap.size + 1, 1, none⟩ u) (fun k => w.heap.size ≤ k) A2 q2.length q2 := by
  have ne4 : ∀ k, N ≤ k → k ≠ w.heap.size := fun k hk => by omega
  have ne8 : ∀ k, N ≤ k → k ≠ w.heap.size + 1 := fun k hk => by omega
  exact Kd.F_mono (Kd.F_far (p := ⟨w.heap.size + 1, 1, none⟩) (Kd.F_far (p := ⟨w.heap.size + 1, 0, none⟩) (Kd.F_far (p := ⟨w.heap.size, 1, none⟩) (Kd.F_far (p := ⟨w.heap.size, 0, none⟩) h ne4 _) ne4 _) ne8 _) ne8 _) (fun k hk => by have : N ≤ k := hk; show w.heap.size ≤ k; omega)
theorem NX.zero (r : NX w m A c q W) : NX w m A c q ((W.setCell ⟨w.heap.size + 1, 0, none⟩ (.int .i64 0)).setCell ⟨w.heap.size + 1, 1, none⟩ (.slice none 0 0)) := by
  refine ⟨?_, ?_, below_set (below_set r.bl (by simp)) (by simp)⟩
  · exact blk_far (blk_far r.b4 (show w.heap.size ≠ w.heap.size + 1 by omega) _) (show w.heap.size ≠ w.heap.size + 1 by omega) _
  · exact blk_put (blk_put r.b8 0 _ rfl) 1 _ rfl
end
def NextPost (m : Int) (l : List Oq) (P : List Int) (q : List Lv) (y : Int) (w : World) (e : Ending) (w' : World) : Prop := ∃ (mm : Int) (A' : Option Addr) (n' c' : Nat), e = .returned (.tuple #[.agg #[.int .i64 mm, .slice A' n' c'], .bool (nxtN m l P q y)]) ∧ (nxtN m l P q y = true → mm = m ∧ n' = (accR m q (opL l y).f0).2.1.length ∧ n' ≤ c' ∧ Kd.F k59 w' (fun k => w.heap.size ≤ k) A' (accR m q (opL l y).f0).2.1.length (accR m q (opL l y).f0).2.1) ∧ Below w.heap.size w w'
set_option maxRecDepth 100000 in
set_option maxHeartbeats 16000000 in
theorem next_any (m : Int) (A0 : Option Addr) (c0 : Nat) (q : List Lv) (A : Option Addr) (c : Nat) (l : List Oq) (B : Option Addr) (cB : Nat) (P : List Int) (y : Int) (w : World) (hm : mOk m) (hq : Kd.C k59 w A0 q.length q) (hqc : q.length ≤ c0) (hrt : rtL m q) (hql : q.length ≤ 900) (hr : Kd.C k40 w A l.length l) (hc : l.length ≤ c) (ho : Kd.C (Kd.int .i64) w B P.length P) (hcB : P.length ≤ cB) (hl : l.length ≤ 500) (hol : P.length ≤ 900) (hy : 0 ≤ y ∧ y < (l.length : Int)) :
    Calls Try.prog 26 #[.agg #[.int .i64 m, .slice A0 q.length c0], .slice A l.length c, .slice B P.length cB, .int .i64 y] w (NextPost m l P q y w) := by
  have hu := Try.underlying40
  have hu2 := Try.underlying43
  have hu3 := Try.underlying38
  have HR := Sh.mk hr
  have HO := Sh.mk ho
  have HMM := Sh.mk hm
  have HQ := Sh.mk hq
  have HRT := Sh.mk (And.intro hrt (And.intro hqc hql))
  have HX : NX w m A0 c0 q ((w.alloc (.cells #[.int .i64 m, .slice A0 q.length c0] 43)).alloc (.cells #[.int .i64 0, .slice none 0 0] 43)) :=
    ⟨blk_alloc (blk_new _ _) _, by have := blk_new (w.alloc (.cells #[.int .i64 m, .slice A0 q.length c0] 43)) (.cells #[.int .i64 0, .slice none 0 0] 43); simpa using this, below_alloc (below_alloc (Below.refl _ _) _) _⟩
  obtain ⟨hy1, hy2⟩ := hy
  clear hr ho hm hq hrt hqc hql
  go_enter Try.func26, Try.ntmps26
  go_wp2_with fail
  (with_reducible refine (cont_any P y B cB _ (Kd.C_below HO.out HX.bl) hcB (by omega)).mono ?_); rintro e w1 ⟨rfl, b⟩
  have HX1 := HX.below b
  clear b HX
  cases c1 : decide (y ∈ P) with
  | true =>
    have HV : Sh (nxtN m l P q y = false) := ⟨by unfold nxtN; rw [c1]; rfl⟩
    have f80 := HX1.f8 0
    have f81 := HX1.f8 1
    have c80 := HX1.c80
    have c81 := HX1.c81
    have HX2 := HX1.zero
    have c82 := HX2.c80
    have c83 := HX2.c81
    clear c1
    go_wp2
    refine bodyPost_ret (v := .tuple #[.agg #[.int .i64 0, .slice none 0 0], .bool false]) (by simp [c80, c81, c82, c83, results, Try.results26, go_sem]) rfl ?_
    exact ⟨0, none, 0, 0, by rw [HV.out], fun h => absurd (HV.out.symm.trans h) (by simp), by first | exact HX2.bl | exact HX1.bl⟩
  | false =>
  have HV : Sh (nxtN m l P q y = (((List.range l.length).all fun i => !(((i : Int) != y) && (ahB (opL l (i : Int)) (opL l y) && !decide ((i : Int) ∈ P)))) && (accR m q (opL l y).f0).2.2)) := ⟨by unfold nxtN; rw [c1]; rfl⟩
  clear c1
  go_wp2
  go_loopw [20] (fun i wr => ∃ k, k ≤ l.length ∧ i = .int .i64 (k : Nat) ∧ Sh (∀ i' : Nat, i' < k → (!(((i' : Int) != y) && (ahB (opL l (i' : Int)) (opL l y) && !decide ((i' : Int) ∈ P)))) = true) ∧ Sh (NX w m A0 c0 q wr)) (fun i _ => l.length - (intOf i).toNat)
  case atStart => exact ⟨0, Nat.zero_le _, rfl, ⟨fun i' h => by omega⟩, ⟨HX1⟩⟩
  case round =>
    clear HX1
    obtain ⟨i, hi, rfl, HI, HXS⟩ := hrel
    have HX := HXS.out
    by_cases hlt : i < l.length
    · obtain ⟨ad, rfl, a0, a1, a2, a3, a4, a5⟩ := at_T40 (Kd.C_below HR.out HX.bl) (i : Int) (by omega) (by omega)
      obtain ⟨ad', ea, b0, b1, b2, b3, b4, b5⟩ := at_T40 (Kd.C_below HR.out HX.bl) y hy1 hy2
      cases ea
      obtain ⟨X, hX⟩ : ∃ X, X = opL l (i : Int) := ⟨_, rfl⟩
      obtain ⟨Y, hY⟩ : ∃ Y, Y = opL l y := ⟨_, rfl⟩
      have HC := Sh.mk (And.intro hX hY)
      have eX : rd_T40 l (i : Int) = X := hX.symm
      have eY : rd_T40 l y = Y := hY.symm
      rw [eX] at a0 a1 a2 a3 a4 a5
      rw [eY] at b0 b1 b2 b3 b4 b5
      rw [Int.toNat_natCast] at a0 a1 a2 a3 a4 a5
      clear hX hY eX eY
      obtain ⟨wa, hwa⟩ : ∃ x, x = wr := ⟨_, rfl⟩
      have HXA : Sh (NX w m A0 c0 q (wr.alloc (.cells #[.int .i64 X.f0.f0, .int .i64 X.f0.f1, .int .i64 X.f0.f2, .int .i64 X.f0.f3, .int .i64 X.f1, .int .i64 X.f2] 40))) := ⟨HX.below (below_alloc (Below.refl _ _) _)⟩
      have HN : Sh ((wr.alloc (.cells #[.int .i64 X.f0.f0, .int .i64 X.f0.f1, .int .i64 X.f0.f2, .int .i64 X.f0.f3, .int .i64 X.f1, .int .i64 X.f2] 40)).heap[wr.heap.size]? = some (.cells #[.int .i64 X.f0.f0, .int .i64 X.f0.f1, .int .i64 X.f0.f2, .int .i64 X.f0.f3, .int .i64 X.f1, .int .i64 X.f2] 40 (0, 0))) := ⟨blk_new _ _⟩
      have HBA : Sh (Below wr.heap.size wr (wr.alloc (.cells #[.int .i64 X.f0.f0, .int .i64 X.f0.f1, .int .i64 X.f0.f2, .int .i64 X.f0.f3, .int .i64 X.f1, .int .i64 X.f2] 40))) := ⟨below_alloc (Below.refl _ _) _⟩
      clear hwa
      have HBR : ∀ W, Below wr.heap.size wr W → Sh (W.cell? (ad.add (y.toNat * 6)) = some (.int .i64 Y.f0.f0) ∧ W.cell? ⟨(ad.add (y.toNat * 6)).block, (ad.add (y.toNat * 6)).off + 1, none⟩ = some (.int .i64 Y.f0.f1) ∧ W.cell? ⟨(ad.add (y.toNat * 6)).block, (ad.add (y.toNat * 6)).off + 2, none⟩ = some (.int .i64 Y.f0.f2) ∧ W.cell? ⟨(ad.add (y.toNat * 6)).block, (ad.add (y.toNat * 6)).off + 3, none⟩ = some (.int .i64 Y.f0.f3) ∧ W.cell? ⟨(ad.add (y.toNat * 6)).block, (ad.add (y.toNat * 6)).off + 4, none⟩ = some (.int .i64 Y.f1) ∧ W.cell? ⟨(ad.add (y.toNat * 6)).block, (ad.add (y.toNat * 6)).off + 5, none⟩ = some (.int .i64 Y.f2)) := fun W hW => ⟨(hW.cell (World.block_lt_of_cell? _ _ b0)).trans b0, (hW.cell (World.block_lt_of_cell? _ _ b1)).trans b1, (hW.cell (World.block_lt_of_cell? _ _ b2)).trans b2, (hW.cell (World.block_lt_of_cell? _ _ b3)).trans b3, (hW.cell (World.block_lt_of_cell? _ _ b4)).trans b4, (hW.cell (World.block_lt_of_cell? _ _ b5)).trans b5⟩
      clear b0 b1 b2 b3 b4 b5
      by_cases hiy : (i : Int) = y
      · have d1 : ((i : Int) != y) = false := by simp [hiy]
        have HI3 : Sh (∀ i' : Nat, i' < i + 1 → (!(((i' : Int) != y) && (ahB (opL l (i' : Int)) (opL l y) && !decide ((i' : Int) ∈ P)))) = true) := ⟨fun i' h => by
          by_cases e : i' = i
          · subst e; rw [d1]; rfl
          · exact HI.out i' (by omega)⟩
        have HIY := Sh.mk hiy
        clear hiy
        go_upto_region 6 with (fail)
        generalize (wr.alloc (.cells #[.int .i64 X.f0.f0, .int .i64 X.f0.f1, .int .i64 X.f0.f2, .int .i64 X.f0.f3, .int .i64 X.f1, .int .i64 X.f2] 40)) = wx at HXA HN HBA ⊢
        generalize wr.heap.size = g11 at HN ⊢
        go_wp2
        go_quiet (fail)
        go_wp2
        go_roundw
        case rel => exact ⟨i + 1, by omega, by go_num, HI3, ⟨by first | exact HXA.out | exact HXA.out.below (pw_below_drewN (Below.refl _ _) _)⟩⟩
        case measure => simp [intOf]; omega
      · have d1 : ((i : Int) != y) = true := by simp [hiy]
        have HIY := Sh.mk hiy
        clear hiy
        cases cA : ahB X Y with
        | false =>
          have CA := Sh.mk cA
          have HI3 : Sh (∀ i' : Nat, i' < i + 1 → (!(((i' : Int) != y) && (ahB (opL l (i' : Int)) (opL l y) && !decide ((i' : Int) ∈ P)))) = true) := ⟨fun i' h => by
            by_cases e : i' = i
            · subst e; rw [← HC.out.1, ← HC.out.2, cA]; simp
            · exact HI.out i' (by omega)⟩
          clear cA
          go_upto_region 6 with (fail)
          generalize (wr.alloc (.cells #[.int .i64 X.f0.f0, .int .i64 X.f0.f1, .int .i64 X.f0.f2, .int .i64 X.f0.f3, .int .i64 X.f1, .int .i64 X.f2] 40)) = wx at HXA HN HBA ⊢
          generalize wr.heap.size = g11 at HN ⊢
          have HXx := HXA.out
          obtain ⟨x0, x1, x2, x3, x4, x5⟩ : (wx.cell? ⟨g11, 0, none⟩ = some (.int .i64 X.f0.f0) ∧ wx.cell? ⟨g11, 1, none⟩ = some (.int .i64 X.f0.f1) ∧ wx.cell? ⟨g11, 2, none⟩ = some (.int .i64 X.f0.f2) ∧ wx.cell? ⟨g11, 3, none⟩ = some (.int .i64 X.f0.f3) ∧ wx.cell? ⟨g11, 4, none⟩ = some (.int .i64 X.f1) ∧ wx.cell? ⟨g11, 5, none⟩ = some (.int .i64 X.f2)) := ⟨(blk_cell HN.out 0).trans rfl, (blk_cell HN.out 1).trans rfl, (blk_cell HN.out 2).trans rfl, (blk_cell HN.out 3).trans rfl, (blk_cell HN.out 4).trans rfl, (blk_cell HN.out 5).trans rfl⟩
          have HE : ∀ W, Below wx.heap.size wx W → Sh ((W.cell? ⟨g11, 0, none⟩ = some (.int .i64 X.f0.f0) ∧ W.cell? ⟨g11, 1, none⟩ = some (.int .i64 X.f0.f1) ∧ W.cell? ⟨g11, 2, none⟩ = some (.int .i64 X.f0.f2) ∧ W.cell? ⟨g11, 3, none⟩ = some (.int .i64 X.f0.f3) ∧ W.cell? ⟨g11, 4, none⟩ = some (.int .i64 X.f1) ∧ W.cell? ⟨g11, 5, none⟩ = some (.int .i64 X.f2)) ∧ W.cell? (ad.add (y.toNat * 6)) = some (.int .i64 Y.f0.f0) ∧ W.cell? ⟨(ad.add (y.toNat * 6)).block, (ad.add (y.toNat * 6)).off + 1, none⟩ = some (.int .i64 Y.f0.f1) ∧ W.cell? ⟨(ad.add (y.toNat * 6)).block, (ad.add (y.toNat * 6)).off + 2, none⟩ = some (.int .i64 Y.f0.f2) ∧ W.cell? ⟨(ad.add (y.toNat * 6)).block, (ad.add (y.toNat * 6)).off + 3, none⟩ = some (.int .i64 Y.f0.f3) ∧ W.cell? ⟨(ad.add (y.toNat * 6)).block, (ad.add (y.toNat * 6)).off + 4, none⟩ = some (.int .i64 Y.f1) ∧ W.cell? ⟨(ad.add (y.toNat * 6)).block, (ad.add (y.toNat * 6)).off + 5, none⟩ = some (.int .i64 Y.f2)) := fun W hW => ⟨⟨(hW.cell (World.block_lt_of_cell? _ _ x0)).trans x0, (hW.cell (World.block_lt_of_cell? _ _ x1)).trans x1, (hW.cell (World.block_lt_of_cell? _ _ x2)).trans x2, (hW.cell (World.block_lt_of_cell? _ _ x3)).trans x3, (hW.cell (World.block_lt_of_cell? _ _ x4)).trans x4, (hW.cell (World.block_lt_of_cell? _ _ x5)).trans x5⟩, (HBR W (below_step HBA.out hW)).out⟩
          clear x0 x1 x2 x3 x4 x5
          have AR := (HE wx (Below.refl _ _)).out
          go_wp2
          first | go_region_with ((go_at_call 28; (with_reducible refine (ahead_any X Y _).mono ?_); rintro e w4 ⟨rfl, b⟩; rw [CA.out]; have B4 : Sh (Below wx.heap.size wx w4) := ⟨by first | exact b | exact below_step (Below.refl _ _).drew b⟩; clear b)) | fail
          all_goals
            have HX4 : Sh (NX w m A0 c0 q w4) := ⟨HXx.below B4.out⟩
            clear HE AR
            go_wp2
            go_roundw
            case rel => exact ⟨i + 1, by omega, by go_num, HI3, HX4⟩
            case measure => simp [intOf]; omega
        | true =>
          have CA := Sh.mk cA
          cases cI : decide ((i : Int) ∈ P) with
          | true =>
            have CI := Sh.mk cI
            have HI3 : Sh (∀ i' : Nat, i' < i + 1 → (!(((i' : Int) != y) && (ahB (opL l (i' : Int)) (opL l y) && !decide ((i' : Int) ∈ P)))) = true) := ⟨fun i' h => by
              by_cases e : i' = i
              · subst e; rw [cI]; simp
              · exact HI.out i' (by omega)⟩
            clear cA cI
            go_upto_region 6 with (fail)
            generalize (wr.alloc (.cells #[.int .i64 X.f0.f0, .int .i64 X.f0.f1, .int .i64 X.f0.f2, .int .i64 X.f0.f3, .int .i64 X.f1, .int .i64 X.f2] 40)) = wx at HXA HN HBA ⊢
            generalize wr.heap.size = g11 at HN ⊢
            have HXx := HXA.out
            obtain ⟨x0, x1, x2, x3, x4, x5⟩ : (wx.cell? ⟨g11, 0, none⟩ = some (.int .i64 X.f0.f0) ∧ wx.cell? ⟨g11, 1, none⟩ = some (.int .i64 X.f0.f1) ∧ wx.cell? ⟨g11, 2, none⟩ = some (.int .i64 X.f0.f2) ∧ wx.cell? ⟨g11, 3, none⟩ = some (.int .i64 X.f0.f3) ∧ wx.cell? ⟨g11, 4, none⟩ = some (.int .i64 X.f1) ∧ wx.cell? ⟨g11, 5, none⟩ = some (.int .i64 X.f2)) := ⟨(blk_cell HN.out 0).trans rfl, (blk_cell HN.out 1).trans rfl, (blk_cell HN.out 2).trans rfl, (blk_cell HN.out 3).trans rfl, (blk_cell HN.out 4).trans rfl, (blk_cell HN.out 5).trans rfl⟩
            have HE : ∀ W, Below wx.heap.size wx W → Sh ((W.cell? ⟨g11, 0, none⟩ = some (.int .i64 X.f0.f0) ∧ W.cell? ⟨g11, 1, none⟩ = some (.int .i64 X.f0.f1) ∧ W.cell? ⟨g11, 2, none⟩ = some (.int .i64 X.f0.f2) ∧ W.cell? ⟨g11, 3, none⟩ = some (.int .i64 X.f0.f3) ∧ W.cell? ⟨g11, 4, none⟩ = some (.int .i64 X.f1) ∧ W.cell? ⟨g11, 5, none⟩ = some (.int .i64 X.f2)) ∧ W.cell? (ad.add (y.toNat * 6)) = some (.int .i64 Y.f0.f0) ∧ W.cell? ⟨(ad.add (y.toNat * 6)).block, (ad.add (y.toNat * 6)).off + 1, none⟩ = some (.int .i64 Y.f0.f1) ∧ W.cell? ⟨(ad.add (y.toNat * 6)).block, (ad.add (y.toNat * 6)).off + 2, none⟩ = some (.int .i64 Y.f0.f2) ∧ W.cell? ⟨(ad.add (y.toNat * 6)).block, (ad.add (y.toNat * 6)).off + 3, none⟩ = some (.int .i64 Y.f0.f3) ∧ W.cell? ⟨(ad.add (y.toNat * 6)).block, (ad.add (y.toNat * 6)).off + 4, none⟩ = some (.int .i64 Y.f1) ∧ W.cell? ⟨(ad.add (y.toNat * 6)).block, (ad.add (y.toNat * 6)).off + 5, none⟩ = some (.int .i64 Y.f2)) := fun W hW => ⟨⟨(hW.cell (World.block_lt_of_cell? _ _ x0)).trans x0, (hW.cell (World.block_lt_of_cell? _ _ x1)).trans x1, (hW.cell (World.block_lt_of_cell? _ _ x2)).trans x2, (hW.cell (World.block_lt_of_cell? _ _ x3)).trans x3, (hW.cell (World.block_lt_of_cell? _ _ x4)).trans x4, (hW.cell (World.block_lt_of_cell? _ _ x5)).trans x5⟩, (HBR W (below_step HBA.out hW)).out⟩
            clear x0 x1 x2 x3 x4 x5
            have AR := (HE wx (Below.refl _ _)).out
            go_wp2
            first | go_region_held3 (fun W => (W.cell? ⟨g11, 0, none⟩ = some (.int .i64 X.f0.f0) ∧ W.cell? ⟨g11, 1, none⟩ = some (.int .i64 X.f0.f1) ∧ W.cell? ⟨g11, 2, none⟩ = some (.int .i64 X.f0.f2) ∧ W.cell? ⟨g11, 3, none⟩ = some (.int .i64 X.f0.f3) ∧ W.cell? ⟨g11, 4, none⟩ = some (.int .i64 X.f1) ∧ W.cell? ⟨g11, 5, none⟩ = some (.int .i64 X.f2)) ∧ W.cell? (ad.add (y.toNat * 6)) = some (.int .i64 Y.f0.f0) ∧ W.cell? ⟨(ad.add (y.toNat * 6)).block, (ad.add (y.toNat * 6)).off + 1, none⟩ = some (.int .i64 Y.f0.f1) ∧ W.cell? ⟨(ad.add (y.toNat * 6)).block, (ad.add (y.toNat * 6)).off + 2, none⟩ = some (.int .i64 Y.f0.f2) ∧ W.cell? ⟨(ad.add (y.toNat * 6)).block, (ad.add (y.toNat * 6)).off + 3, none⟩ = some (.int .i64 Y.f0.f3) ∧ W.cell? ⟨(ad.add (y.toNat * 6)).block, (ad.add (y.toNat * 6)).off + 4, none⟩ = some (.int .i64 Y.f1) ∧ W.cell? ⟨(ad.add (y.toNat * 6)).block, (ad.add (y.toNat * 6)).off + 5, none⟩ = some (.int .i64 Y.f2)) (first | exact (HE _ (Below.refl _ _)).out | exact (HE _ (Below.refl _ _).drew).out | exact (HE _ B4.out).out | exact (HE _ B4.out.drew).out | exact (HE _ B5.out).out | exact (HE _ B5.out.drew).out) ((first | (go_at_call 28; (with_reducible refine (ahead_any X Y _).mono ?_); rintro e w4 ⟨rfl, b⟩; rw [CA.out]; have B4 : Sh (Below wx.heap.size wx w4) := ⟨by first | exact b | exact below_step (Below.refl _ _).drew b⟩; clear b) | (go_at_call 41; (with_reducible refine (cont_any P (i : Int) B cB _ (Kd.C_below HO.out (below_then HXx.bl HXx.bl.size (by first | exact B4.out | exact B4.out.drew))) hcB (by omega)).mono ?_); rintro e w5 ⟨rfl, b⟩; rw [CI.out]; have B5 : Sh (Below wx.heap.size wx w5) := ⟨by first | exact below_step B4.out b | exact below_step B4.out.drew b⟩; clear b))) | fail
            all_goals
              have HX5 : Sh (NX w m A0 c0 q w5) := ⟨HXx.below B5.out⟩
              clear HE AR
              go_wp2
              go_roundw
              case rel => exact ⟨i + 1, by omega, by go_num, HI3, HX5⟩
              case measure => simp [intOf]; omega
          | false =>
            have CI := Sh.mk cI
            have HV2 : Sh (nxtN m l P q y = false) := ⟨by
              rw [HV.out]
              have : ((List.range l.length).all fun i => !(((i : Int) != y) && (ahB (opL l (i : Int)) (opL l y) && !decide ((i : Int) ∈ P)))) = false := by
                rw [Bool.eq_false_iff]
                intro h
                have := List.all_eq_true.1 h i (List.mem_range.2 hlt)
                rw [d1, ← HC.out.1, ← HC.out.2, cA, cI] at this
                cases this
              rw [this]; rfl⟩
            clear cA cI
            go_upto_region 6 with (fail)
            generalize (wr.alloc (.cells #[.int .i64 X.f0.f0, .int .i64 X.f0.f1, .int .i64 X.f0.f2, .int .i64 X.f0.f3, .int .i64 X.f1, .int .i64 X.f2] 40)) = wx at HXA HN HBA ⊢
            generalize wr.heap.size = g11 at HN ⊢
            have HXx := HXA.out
            obtain ⟨x0, x1, x2, x3, x4, x5⟩ : (wx.cell? ⟨g11, 0, none⟩ = some (.int .i64 X.f0.f0) ∧ wx.cell? ⟨g11, 1, none⟩ = some (.int .i64 X.f0.f1) ∧ wx.cell? ⟨g11, 2, none⟩ = some (.int .i64 X.f0.f2) ∧ wx.cell? ⟨g11, 3, none⟩ = some (.int .i64 X.f0.f3) ∧ wx.cell? ⟨g11, 4, none⟩ = some (.int .i64 X.f1) ∧ wx.cell? ⟨g11, 5, none⟩ = some (.int .i64 X.f2)) := ⟨(blk_cell HN.out 0).trans rfl, (blk_cell HN.out 1).trans rfl, (blk_cell HN.out 2).trans rfl, (blk_cell HN.out 3).trans rfl, (blk_cell HN.out 4).trans rfl, (blk_cell HN.out 5).trans rfl⟩
            have HE : ∀ W, Below wx.heap.size wx W → Sh ((W.cell? ⟨g11, 0, none⟩ = some (.int .i64 X.f0.f0) ∧ W.cell? ⟨g11, 1, none⟩ = some (.int .i64 X.f0.f1) ∧ W.cell? ⟨g11, 2, none⟩ = some (.int .i64 X.f0.f2) ∧ W.cell? ⟨g11, 3, none⟩ = some (.int .i64 X.f0.f3) ∧ W.cell? ⟨g11, 4, none⟩ = some (.int .i64 X.f1) ∧ W.cell? ⟨g11, 5, none⟩ = some (.int .i64 X.f2)) ∧ W.cell? (ad.add (y.toNat * 6)) = some (.int .i64 Y.f0.f0) ∧ W.cell? ⟨(ad.add (y.toNat * 6)).block, (ad.add (y.toNat * 6)).off + 1, none⟩ = some (.int .i64 Y.f0.f1) ∧ W.cell? ⟨(ad.add (y.toNat * 6)).block, (ad.add (y.toNat * 6)).off + 2, none⟩ = some (.int .i64 Y.f0.f2) ∧ W.cell? ⟨(ad.add (y.toNat * 6)).block, (ad.add (y.toNat * 6)).off + 3, none⟩ = some (.int .i64 Y.f0.f3) ∧ W.cell? ⟨(ad.add (y.toNat * 6)).block, (ad.add (y.toNat * 6)).off + 4, none⟩ = some (.int .i64 Y.f1) ∧ W.cell? ⟨(ad.add (y.toNat * 6)).block, (ad.add (y.toNat * 6)).off + 5, none⟩ = some (.int .i64 Y.f2)) := fun W hW => ⟨⟨(hW.cell (World.block_lt_of_cell? _ _ x0)).trans x0, (hW.cell (World.block_lt_of_cell? _ _ x1)).trans x1, (hW.cell (World.block_lt_of_cell? _ _ x2)).trans x2, (hW.cell (World.block_lt_of_cell? _ _ x3)).trans x3, (hW.cell (World.block_lt_of_cell? _ _ x4)).trans x4, (hW.cell (World.block_lt_of_cell? _ _ x5)).trans x5⟩, (HBR W (below_step HBA.out hW)).out⟩
            clear x0 x1 x2 x3 x4 x5
            have AR := (HE wx (Below.refl _ _)).out
            go_wp2
            first | go_region_held3 (fun W => (W.cell? ⟨g11, 0, none⟩ = some (.int .i64 X.f0.f0) ∧ W.cell? ⟨g11, 1, none⟩ = some (.int .i64 X.f0.f1) ∧ W.cell? ⟨g11, 2, none⟩ = some (.int .i64 X.f0.f2) ∧ W.cell? ⟨g11, 3, none⟩ = some (.int .i64 X.f0.f3) ∧ W.cell? ⟨g11, 4, none⟩ = some (.int .i64 X.f1) ∧ W.cell? ⟨g11, 5, none⟩ = some (.int .i64 X.f2)) ∧ W.cell? (ad.add (y.toNat * 6)) = some (.int .i64 Y.f0.f0) ∧ W.cell? ⟨(ad.add (y.toNat * 6)).block, (ad.add (y.toNat * 6)).off + 1, none⟩ = some (.int .i64 Y.f0.f1) ∧ W.cell? ⟨(ad.add (y.toNat * 6)).block, (ad.add (y.toNat * 6)).off + 2, none⟩ = some (.int .i64 Y.f0.f2) ∧ W.cell? ⟨(ad.add (y.toNat * 6)).block, (ad.add (y.toNat * 6)).off + 3, none⟩ = some (.int .i64 Y.f0.f3) ∧ W.cell? ⟨(ad.add (y.toNat * 6)).block, (ad.add (y.toNat * 6)).off + 4, none⟩ = some (.int .i64 Y.f1) ∧ W.cell? ⟨(ad.add (y.toNat * 6)).block, (ad.add (y.toNat * 6)).off + 5, none⟩ = some (.int .i64 Y.f2)) (first | exact (HE _ (Below.refl _ _)).out | exact (HE _ (Below.refl _ _).drew).out | exact (HE _ B4.out).out | exact (HE _ B4.out.drew).out | exact (HE _ B5.out).out | exact (HE _ B5.out.drew).out) ((first | (go_at_call 28; (with_reducible refine (ahead_any X Y _).mono ?_); rintro e w4 ⟨rfl, b⟩; rw [CA.out]; have B4 : Sh (Below wx.heap.size wx w4) := ⟨by first | exact b | exact below_step (Below.refl _ _).drew b⟩; clear b) | (go_at_call 41; (with_reducible refine (cont_any P (i : Int) B cB _ (Kd.C_below HO.out (below_then HXx.bl HXx.bl.size (by first | exact B4.out | exact B4.out.drew))) hcB (by omega)).mono ?_); rintro e w5 ⟨rfl, b⟩; rw [CI.out]; have B5 : Sh (Below wx.heap.size wx w5) := ⟨by first | exact below_step B4.out b | exact below_step B4.out.drew b⟩; clear b))) | fail
            all_goals
              have HX5 : NX w m A0 c0 q w5 := HXx.below B5.out
              clear HE AR
              have f80 := HX5.f8 0
              have f81 := HX5.f8 1
              have c80 := HX5.c80
              have c81 := HX5.c81
              have HX2 := HX5.zero
              have c82 := HX2.c80
              have c83 := HX2.c81
              go_wp2
              refine bodyPost_ret (v := .tuple #[.agg #[.int .i64 0, .slice none 0 0], .bool false]) (by simp [c80, c81, c82, c83, results, Try.results26, go_sem]) rfl ?_
              exact ⟨0, none, 0, 0, by rw [HV2.out], fun h => absurd (HV2.out.symm.trans h) (by simp), by first | exact HX2.bl | exact HX5.bl⟩
    · obtain rfl : i = l.length := by omega
      have HV2 : Sh (nxtN m l P q y = (accR m q (opL l y).f0).2.2) := ⟨by
        rw [HV.out]
        have : ((List.range l.length).all fun i => !(((i : Int) != y) && (ahB (opL l (i : Int)) (opL l y) && !decide ((i : Int) ∈ P)))) = true := List.all_eq_true.2 (fun i hi => HI.out i (List.mem_range.1 hi))
        rw [this]; rfl⟩
      obtain ⟨ad, rfl, b0, b1, b2, b3, b4, b5⟩ := at_T40 HR.out y hy1 hy2
      obtain ⟨Y, hY⟩ : ∃ Y, Y = opL l y := ⟨_, rfl⟩
      have eY : rd_T40 l y = Y := hY.symm
      rw [eY] at b0 b1 b2 b3 b4 b5
      rw [← hY] at HV2
      have HYS := Sh.mk hY
      have HBD : ∀ W, Below w.heap.size w W → Sh (W.cell? (ad.add (y.toNat * 6)) = some (.int .i64 Y.f0.f0) ∧ W.cell? ⟨(ad.add (y.toNat * 6)).block, (ad.add (y.toNat * 6)).off + 1, none⟩ = some (.int .i64 Y.f0.f1) ∧ W.cell? ⟨(ad.add (y.toNat * 6)).block, (ad.add (y.toNat * 6)).off + 2, none⟩ = some (.int .i64 Y.f0.f2) ∧ W.cell? ⟨(ad.add (y.toNat * 6)).block, (ad.add (y.toNat * 6)).off + 3, none⟩ = some (.int .i64 Y.f0.f3)) := fun W hW => ⟨(hW.cell (World.block_lt_of_cell? _ _ b0)).trans b0, (hW.cell (World.block_lt_of_cell? _ _ b1)).trans b1, (hW.cell (World.block_lt_of_cell? _ _ b2)).trans b2, (hW.cell (World.block_lt_of_cell? _ _ b3)).trans b3⟩
      obtain ⟨wn, hwn⟩ : ∃ x, x = (wr.alloc (.cells #[.int .i64 Y.f0.f0, .int .i64 Y.f0.f1, .int .i64 Y.f0.f2, .int .i64 Y.f0.f3] 38)).drew := ⟨_, rfl⟩
      have HBN : Sh (Below wr.heap.size wr wn) := ⟨by rw [hwn]; exact (below_alloc (Below.refl _ _) _).drew⟩
      have HXN : Sh (NX w m A0 c0 q wn) := ⟨HX.below HBN.out⟩
      have HBL : Sh (wn.heap[wr.heap.size]? = some (.cells #[.int .i64 Y.f0.f0, .int .i64 Y.f0.f1, .int .i64 Y.f0.f2, .int .i64 Y.f0.f3] 38 (0, 0))) := ⟨by rw [hwn]; exact blk_drew (blk_new _ _)⟩
      have HAC : Sh (Calls Try.prog 16 #[.agg #[.int .i64 m, .slice A0 q.length c0], .slice (some ⟨wr.heap.size, 0, none⟩) 1 1] wn (AccPost m q [Y.f0] wn)) := ⟨by
        have h := R_one (x := Y.f0) HBL.out
        exact accepts_any m A0 c0 q _ 1 [Y.f0] wn HMM.out HRT.out.1 (by have := HRT.out.2.2; simp; omega) (Kd.C_below HQ.out HXN.out.bl) HRT.out.2.1 (Kd.R_reads' h).2.2 (Nat.le_refl _)⟩
      have HAC2 : Sh (Calls Try.prog 16 #[.agg #[.int .i64 m, .slice A0 q.length c0], .slice (some ⟨wr.heap.size, 0, none⟩) 1 1] (wr.alloc (.cells #[.int .i64 Y.f0.f0, .int .i64 Y.f0.f1, .int .i64 Y.f0.f2, .int .i64 Y.f0.f3] 38)).drew (AccPost m q [Y.f0] wn)) := ⟨by rw [← hwn]; exact HAC.out⟩
      have m0 : (wr.alloc (.cells #[.int .i64 Y.f0.f0, .int .i64 Y.f0.f1, .int .i64 Y.f0.f2, .int .i64 Y.f0.f3] 38)).drew.cell? ⟨w.heap.size, 0, none⟩ = some (.int .i64 m) := by rw [← hwn]; exact HXN.out.c40
      have m1 : (wr.alloc (.cells #[.int .i64 Y.f0.f0, .int .i64 Y.f0.f1, .int .i64 Y.f0.f2, .int .i64 Y.f0.f3] 38)).drew.cell? ⟨w.heap.size, 1, none⟩ = some (.slice A0 q.length c0) := by rw [← hwn]; exact HXN.out.c41
      have m2 := HX.c40
      have m3 := HX.c41
      have m4 := World.cell?_alloc_some wr ⟨w.heap.size, 0, none⟩ (.cells #[.int .i64 Y.f0.f0, .int .i64 Y.f0.f1, .int .i64 Y.f0.f2, .int .i64 Y.f0.f3] 38) (by rw [m2]; rfl)
      have m5 := World.cell?_alloc_some wr ⟨w.heap.size, 1, none⟩ (.cells #[.int .i64 Y.f0.f0, .int .i64 Y.f0.f1, .int .i64 Y.f0.f2, .int .i64 Y.f0.f3] 38) (by rw [m3]; rfl)
      rw [m2] at m4
      rw [m3] at m5
      have HWN := Sh.mk hwn
      have AR := (HBD wr HX.bl).out
      clear b0 b1 b2 b3 b4 b5 hY eY hwn m0 m1
      go_wp2
      go_region_with ((go_at_call 16; (with_reducible refine HAC2.out.mono ?_); rintro e w4 ⟨A6, c6, rfl, hc6, hF6, b⟩; have HX4 := Sh.mk (HXN.out.below b); have HF6 := Sh.mk hF6; have HC6 := Sh.mk hc6; have m0 := HX4.out.c40; have m1 := HX4.out.c41; have mf := HX4.out.f4 0; have mg := HX4.out.f4 1; clear b hF6 hc6))
      all_goals
        have HX6 := Sh.mk (HX4.out.put A6 c6 (accsL m q [Y.f0]).1)
        have HF7 := Sh.mk (HX4.out.far HF6.out (show w.heap.size + 1 < wn.heap.size from blk_lt HXN.out.b8) (.slice A6 (accsL m q [Y.f0]).1.length c6))
        obtain ⟨ok, hok⟩ : ∃ ok, ok = (accsL m q [Y.f0]).2.2 := ⟨_, rfl⟩
        obtain ⟨num, hnum⟩ : ∃ num, num = (accsL m q [Y.f0]).2.1 := ⟨_, rfl⟩
        obtain ⟨q6, hq6⟩ : ∃ q6, q6 = (accsL m q [Y.f0]).1 := ⟨_, rfl⟩
        have HK := Sh.mk (And.intro hok hq6)
        rw [← hok, ← hnum, ← hq6]
        rw [← hq6] at HX6 HC6 HF7
        generalize ((w4.setCell ⟨w.heap.size, 0, none⟩ (.int .i64 m)).setCell ⟨w.heap.size, 1, none⟩ (.slice A6 q6.length c6)) = w6 at HX6 HF7 ⊢
        clear HX4 m0 m1 mf mg m2 m3 m4 m5 AR hok hnum hq6 HF6 HAC HAC2 HBL HXN HWN HBN HBD
        have n0 := HX6.out.c40
        have n1 := HX6.out.c41
        have f80 := HX6.out.f8 0
        have f81 := HX6.out.f8 1
        have c80 := HX6.out.c80
        have c81 := HX6.out.c81
        have c82 := HX6.out.d80
        have c83 := HX6.out.d81
        go_wp2
        refine bodyPost_ret (v := .tuple #[.agg #[.int .i64 m, .slice A6 q6.length c6], .bool ok]) (by simp [c80, c81, c82, c83, results, Try.results26, go_sem]) rfl ?_
        refine ⟨m, A6, q6.length, c6, by rw [HV2.out, HK.out.1, accs_one], fun h => ?_, below_set (below_set HX6.out.bl (by simp)) (by simp)⟩
        rw [HV2.out] at h
        have h2 := accs_one1 h
        rw [← HK.out.2] at h2
        rw [← HYS.out, ← h2]
        exact ⟨rfl, rfl, HC6.out, HF7.out⟩
end Go.Proofs.Ytpddppipjlagfaa
