/- The statements' Sorted: its contract. No statement is proved here. -/
import Derived.Test.YtpddppipjlagfaaLinGiven
namespace Go.Proofs.Ytpddppipjlagfaa
set_option linter.unusedVariables false
set_option linter.unusedSimpArgs false
open Go.RowKit Go.Proofs.YtpddppipjlagfaaW.PrintWords Go.Proofs.YtpddppipjlagfaaW.PrintLast Go.Proofs.YtpddppipjlagfaaW.PrintMore Pr Go.Proofs.Ytpddppipjlagfaa.Pure

section
variable {P : Program} {ops : Array Oper} {o : Oper} {a : Act} {Q : Exit → Act → World → Prop} {Kc : Act → World → Prop} {α : Type}
theorem step_append_cellsI {w0 W : World} (base : Nat) (hw : Region.wanted o (yielded ops a.tmps) = true) (s x : Operand) (t e : TypeId) (z : Value) (size bytes : Nat)
    (ho : o.op = .call { callee := .builtin .append, args := #[s, x], argTypes := #[t, t] })
    (ht : P.underlying t = some (.slice e)) (hinfo : (P.info? e).map (fun i => (i.zero, i.size, i.bytes)) = some (some z, size, bytes)) (hz : z.cells.size = size) (hs0 : 0 < size) (hb0 : 0 < bytes)
    (v : Value) (n : Nat) (xs ys : List Value) (hs : a.eval s = v) (hx : a.eval x = .slice (some ⟨W.heap.size, 0, none⟩) 1 1) (hys : ys.length = size) (h1 : ∀ u ∈ ys, u.oneCell' = true)
    (HO : W.ownsRow base e size v n xs) (HB : Below base w0 W) (hbase : base ≤ W.heap.size) (hl : (n + 1) * bytes ≤ 140737488355328)
    (h : ∀ v1 w1, w1.ownsRow base e size v1 (n + 1) (xs ++ ys) → Below base w0 w1 → W.grownBy w1 v.ownBlock → (v1.ownBlock = v.ownBlock ∨ ∃ b, v1.ownBlock = some b ∧ W.heap.size ≤ b) → Kc (a.put o.dst v1) w1) :
    if Region.wanted o (yielded ops a.tmps) = true then Oper.wp P o a (W.alloc (.cells ys.toArray e)) Kc Q else Kc (a.put o.dst undef) (W.alloc (.cells ys.toArray e)) := by
  obtain ⟨i0, hi, hzz⟩ := Option.map_eq_some_iff.1 hinfo
  simp only [Prod.mk.injEq] at hzz
  obtain ⟨hz0, hz1, hz2⟩ := hzz
  have hlen : n + 1 ≤ 140737488355328 := Nat.le_trans (Nat.le_mul_of_pos_right _ hb0) hl
  rw [if_pos hw]
  obtain ⟨v1, w1, hr, hown, hg, _, hat⟩ := run_append_own_at (P := P) (W.alloc (.cells ys.toArray e)) base t o.type e i0 z size bytes ht hi hz0 hz1 hz2 hz hs0 v n xs (HO.alloc _) ⟨W.heap.size, 0, none⟩ 1 1 ys (by rw [hys]; simp)
    (by simpa using World.news_of_block (cs := ys.toArray) (t := e) (fr := (0, 0)) (heap_alloc_new W (.cells ys.toArray e))) h1 (by simp only [maxLen]; omega) hl (by simp; omega)
  unfold Oper.wp execOp
  simp only [ho, resolve, invoke, builtin, Sem.run_bind, Sem.run_pure, Result.andThen_ok, List.map_toArray, List.map_cons, List.map_nil, hs, hx, hr]
  refine h v1 w1 hown ((HB.alloc hbase _).grown hg (by simp; omega) (own_base HO)) (World.grownBy.trans (World.grownBy_alloc W _ _) hg) ?_
  rcases hat with hat | hat
  · exact .inl hat
  · exact .inr ⟨_, hat, by simp⟩
open Kd in
theorem R_append_stepI (d : Kd α) {w0 W : World} (base : Nat) (hw : Region.wanted o (yielded ops a.tmps) = true) (s x : Operand) (t e : TypeId) (z : Value) (bytes : Nat)
    (ho : o.op = .call { callee := .builtin .append, args := #[s, x], argTypes := #[t, t] })
    (ht : P.underlying t = some (.slice e)) (hinfo : (P.info? e).map (fun i => (i.zero, i.size, i.bytes)) = some (some z, d.sz, bytes)) (hz : z.cells.size = d.sz) (hs0 : 0 < d.sz) (hb0 : 0 < bytes)
    (v : Value) (xs : List α) (p : α) (cs : List Value) (ok okp : Nat → Prop) (hs : a.eval s = v) (hx : a.eval x = .slice (some ⟨W.heap.size, 0, none⟩) 1 1) (hp : d.M W base okp p cs) (hokp : ∀ k, okp k → ok k ∧ some k ≠ v.ownBlock) (hfresh : ∀ k, W.heap.size ≤ k → ok k)
    (HO : d.R e W base ok v xs) (HB : Below base w0 W) (hbase : base ≤ W.heap.size) (hl : (xs.length + 1) * bytes ≤ 140737488355328)
    (h : ∀ v1 w1, d.R e w1 base ok v1 (xs ++ [p]) → Below base w0 w1 → W.grownBy w1 v.ownBlock → (v1.ownBlock = v.ownBlock ∨ ∃ b, v1.ownBlock = some b ∧ W.heap.size ≤ b) → Kc (a.put o.dst v1) w1) :
    if Region.wanted o (yielded ops a.tmps) = true then Oper.wp P o a (W.alloc (.cells cs.toArray e)) Kc Q else Kc (a.put o.dst undef) (W.alloc (.cells cs.toArray e)) := by
  obtain ⟨h0, inner, hown, hr⟩ := HO
  refine step_append_cellsI base hw s x t e z d.sz bytes ho ht hinfo hz hs0 hb0 v xs.length inner cs hs hx (d.K_len (d.K_of_M hp)) (d.K_one (d.K_of_M hp)) hown HB hbase hl ?_
  intro v1 w1 hown1 hb1 hg1 hat1
  exact h v1 w1 (R_appended h0 hr hp hokp hfresh hown1 hg1 hat1) hb1 hg1 hat1
end
theorem Rs_made0 {w wr : World} (hb : Below w.heap.size w wr) : Kd.R (Kd.int .i64) 3 (wr.alloc (.cells #[] 3)).drew w.heap.size (fun _ => True) (.slice (some ⟨wr.heap.size, 0, none⟩) 0 0) [] :=
  ⟨fun _ _ => trivial, [], World.ownsRow_made wr #[] 0 hb.size (by simp [maxLen]) (by rfl), Reps.none _ _⟩
theorem Cs_blk1 {w2 : World} {g : Nat} {t : TypeId} {x : Int} (h2 : Blk w2 g t #[.int .i64 x]) : Kd.C (Kd.int .i64) w2 (some ⟨g, 0, none⟩) 1 [x] := by
  refine ⟨rfl, by omega, fun _ => ⟨_, rfl, fun j p hp => ⟨[.int .i64 p], rfl, rfl, fun i u hu => ?_⟩⟩⟩
  have hj : j = 0 := by have := (List.getElem?_eq_some_iff.1 hp).1; simp at this; exact this
  subst hj
  have hi : i = 0 := by have := (List.getElem?_eq_some_iff.1 hu).1; simp at this; exact this
  subst hi
  simp at hp hu
  subst hp hu
  rw [add_plain, h2.cell]
  rfl
theorem Rs_made1 {w wr : World} (hb : Below w.heap.size w wr) (x : Int) : Kd.R (Kd.int .i64) 3 ((wr.alloc (.cells #[] 3)).alloc (.cells #[.int .i64 x] 3)).drew w.heap.size (fun _ => True) (.slice (some ⟨wr.heap.size, 0, none⟩) 0 0) [] :=
  Kd.R_drew (Kd.R_alloc ⟨fun _ _ => trivial, [], World.ownsRow_made wr #[] 0 hb.size (by simp [maxLen]) (by rfl), Reps.none _ _⟩ _)
theorem Cs_one1 {wr w2 : World} (x : Int) (hg : ((wr.alloc (.cells #[] 3)).alloc (.cells #[.int .i64 x] 3)).drew.grownBy w2 (Value.slice (some ⟨wr.heap.size, 0, none⟩) 0 0).ownBlock) : Kd.C (Kd.int .i64) w2 (some ⟨wr.heap.size + 1, 0, none⟩) 1 [x] := by
  have h1 : Blk ((wr.alloc (.cells #[] 3)).alloc (.cells #[.int .i64 x] 3)).drew (wr.heap.size + 1) 3 #[.int .i64 x] := (Blk.new_ _ _ _ (by simp)).drew
  have h2 : Blk w2 (wr.heap.size + 1) 3 #[.int .i64 x] := (hg.block _ h1.lt (fun e => by simp [Value.ownBlock] at e)).trans h1
  exact Cs_blk1 h2
theorem Rs_made2 {w wr : World} (hb : Below w.heap.size w wr) (x : Int) : Kd.R (Kd.int .i64) 3 ((wr.alloc (.cells #[.int .i64 x] 3)).alloc (.cells #[] 3)).drew w.heap.size (fun _ => True) (.slice (some ⟨wr.heap.size + 1, 0, none⟩) 0 0) [] := by
  have h := Kd.R_drew (d := Kd.int .i64) (e := 3) (base := w.heap.size) (ok := fun _ => True) (xs := []) (v := .slice (some ⟨(wr.alloc (.cells #[.int .i64 x] 3)).heap.size, 0, none⟩) 0 0) (w := (wr.alloc (.cells #[.int .i64 x] 3)).alloc (.cells #[] 3)) ⟨fun _ _ => trivial, [], World.ownsRow_made (wr.alloc (.cells #[.int .i64 x] 3)) #[] 0 (by have := hb.size; simp; omega) (by simp [maxLen]) (by rfl), Reps.none _ _⟩
  simpa using h
theorem Cs_one2 {wr w2 : World} (x : Int) (hg : ((wr.alloc (.cells #[.int .i64 x] 3)).alloc (.cells #[] 3)).drew.grownBy w2 (Value.slice (some ⟨wr.heap.size + 1, 0, none⟩) 0 0).ownBlock) : Kd.C (Kd.int .i64) w2 (some ⟨wr.heap.size, 0, none⟩) 1 [x] := by
  have h1 : Blk ((wr.alloc (.cells #[.int .i64 x] 3)).alloc (.cells #[] 3)).drew wr.heap.size 3 #[.int .i64 x] := ((Blk.new wr _ _).alloc _).drew
  have h2 : Blk w2 wr.heap.size 3 #[.int .i64 x] := (hg.block _ h1.lt (fun e => by simp [Value.ownBlock] at e)).trans h1
  exact Cs_blk1 h2
set_option maxRecDepth 100000 in
set_option maxHeartbeats 8000000 in
theorem sorted_any (A : Option Addr) (c : Nat) (l : List Oq) (w : World) (hr : Kd.C k40 w A l.length l) (hc : l.length ≤ c) (hl : l.length ≤ 500) :
    Calls Try.prog 15 #[.slice A l.length c] w fun e w' => ∃ v, e = .returned v ∧ Kd.R (Kd.int .i64) 3 w' w.heap.size (fun _ => True) v (sortF l) ∧ Below w.heap.size w w' := by
  have HR := Sh.mk hr
  clear hr
  go_enter Try.func15, Try.ntmps15
  go_wp2
  go_loopw [3, 4, 5] (fun lv i kv wr => ∃ (n : Nat) (u : List Int), n ≤ l.length ∧ i = .int .i64 n ∧ Sh (u = sortU l n) ∧ u.length ≤ n ∧ Sh (Kd.R (Kd.int .i64) 3 wr w.heap.size (fun _ => True) lv u) ∧ Sh (Below w.heap.size w wr)) (fun lv i kv _ => l.length - (intOf i).toNat)
  case atStart => exact ⟨0, [], Nat.zero_le _, rfl, ⟨rfl⟩, Nat.le_refl _, ⟨Kd.R_nil _ _ _ _ _⟩, ⟨Below.refl _ _⟩⟩
  case round =>
    obtain ⟨n, u, hn, rfl, HU, hun, HO, HB⟩ := hrel
    obtain ⟨Ao, co, eo⟩ := Kd.R_slice HO.out
    subst eo
    by_cases hlt : n < l.length
    · have HIN : Sh (∀ x ∈ u, 0 ≤ x ∧ x < (n : Int)) := ⟨by rw [HU.out]; exact sortU_in l n⟩
      obtain ⟨b, hb⟩ : ∃ b, b = (opL l (n : Int)).f1 := ⟨_, rfl⟩
      have HS : Sh (sortU l (n + 1) = u.take (posF l u b u.length) ++ [(n : Int)] ++ u.drop (posF l u b u.length)) := ⟨by rw [HU.out, hb]; rfl⟩
      obtain ⟨ad, rfl, -, -, -, -, hcell, -⟩ := at_T40 (Kd.C_below HR.out HB.out) (n : Int) (by omega) (by omega)
      rw [Int.toNat_natCast] at hcell
      have HBE := Sh.mk hb
      rw [show (rd_T40 l (n : Int)).f1 = b from hb.symm] at hcell
      clear hb
      go_wp2
      go_loopw [5] (fun j wr => ∃ q : Nat, q ≤ u.length ∧ j = .int .i64 q ∧ Sh (posF l u b u.length = posF l u b q) ∧ Sh (Kd.R (Kd.int .i64) 3 wr w.heap.size (fun _ => True) (.slice Ao u.length co) u) ∧ Sh (Below w.heap.size w wr)) (fun j _ => (intOf j).toNat)
      case atStart => exact ⟨u.length, Nat.le_refl _, rfl, ⟨rfl⟩, HO, HB⟩
      case round =>
        clear hcell
        obtain ⟨q, hq, rfl, HQ, HOi, HBi⟩ := hrel
        obtain ⟨ad1, e1, -, -, -, -, hcell, -⟩ := at_T40 (Kd.C_below HR.out HBi.out) (n : Int) (by omega) (by omega)
        obtain rfl : ad = ad1 := Option.some.inj e1
        rw [Int.toNat_natCast] at hcell
        rw [show (rd_T40 l (n : Int)).f1 = b from HBE.out.symm] at hcell
        have hco := (Kd.R_reads' HOi.out).2.1
        have hC := (Kd.R_reads' HOi.out).2.2
        by_cases c0 : 0 < q
        · obtain ⟨ad2, e2, hcell2⟩ := Kd.at_int hC ((q : Int) - 1) (by omega) (by omega)
          obtain ⟨y, hy⟩ : ∃ y, y = rd u ((q : Int) - 1) := ⟨_, rfl⟩
          have hyb : 0 ≤ y ∧ y < (n : Int) := by
            rw [hy, rd, List.getD_eq_getElem?_getD, List.getElem?_eq_getElem (show ((q : Int) - 1).toNat < u.length by omega)]
            exact HIN.out _ (List.getElem_mem _)
          obtain ⟨z, hz⟩ : ∃ z : Nat, y = (z : Int) := ⟨y.toNat, by omega⟩
          obtain ⟨ad3, e3, -, -, -, -, hcell3, -⟩ := at_T40 (Kd.C_below HR.out HBi.out) (z : Int) (by omega) (by omega)
          obtain rfl : ad = ad3 := Option.some.inj e3
          rw [Int.toNat_natCast] at hcell3
          obtain ⟨bz, hbz⟩ : ∃ bz, bz = (rd_T40 l (z : Int)).f1 := ⟨_, rfl⟩
          rw [← hbz] at hcell3
          have eN : ((q : Int) - 1).toNat = q - 1 := by omega
          rw [← hy, eN, hz] at hcell2
          subst e2
          have b1 : decide ((q : Int) > 0) = true := decide_eq_true (by omega)
          have b2 : decide (0 < q) = true := decide_eq_true c0
          have hz1 : (z : Int) < (l.length : Int) := by omega
          have hzy : rd u ((q : Int) - 1) = (z : Int) := by rw [← hz, hy]
          by_cases cc : b < bz
          · have HQ2 : Sh (posF l u b u.length = posF l u b (q - 1)) := ⟨by
              rw [HQ.out]
              obtain ⟨p, rfl⟩ : ∃ p, q = p + 1 := ⟨q - 1, by omega⟩
              rw [posF, if_pos (by
                rw [show rd u (p : Int) = (z : Int) by rw [← hzy]; congr 1; omega]
                show b < (rd_T40 l (z : Int)).f1
                rw [← hbz]; exact cc)]
              rfl⟩
            have b3 : decide (bz > b) = true := decide_eq_true cc
            clear hy hyb eN hco hC hbz hz cc hzy
            go_wp2_with fail
            go_quiet (fail)
            go_wp2
            go_roundw
            case measure => simp [intOf]; omega
            case rel => exact ⟨q - 1, by omega, by rw [show ((q - 1 : Nat) : Int) = (q : Int) - 1 by omega], HQ2, ⟨Kd.R_drewN HOi.out _⟩, ⟨pw_below_drewN HBi.out _⟩⟩
          · have HE : Sh (sortU l (n + 1) = (u.take q ++ [(n : Int)]) ++ u.drop q) := ⟨by
              have : posF l u b u.length = q := by
                rw [HQ.out]
                obtain ⟨p, rfl⟩ : ∃ p, q = p + 1 := ⟨q - 1, by omega⟩
                rw [posF, if_neg (by
                  rw [show rd u (p : Int) = (z : Int) by rw [← hzy]; congr 1; omega]
                  show ¬ b < (rd_T40 l (z : Int)).f1
                  rw [← hbz]; exact cc)]
              rw [HS.out, this]⟩
            have b3 : decide (bz > b) = false := decide_eq_false cc
            clear hy hyb eN hco hC hbz hz cc hzy
            go_wp2_with fail
            go_quiet (fail)
            rename_i nq
            have HO4 : Sh (Kd.R (Kd.int .i64) 3 (wr.drewN nq) w.heap.size (fun _ => True) (.slice (some ad2) u.length co) u) := ⟨Kd.R_drewN HOi.out _⟩
            have HB4 : Sh (Below w.heap.size w (wr.drewN nq)) := ⟨pw_below_drewN HBi.out _⟩
            generalize wr.drewN nq = wq at HO4 HB4 ⊢
            have hco := (Kd.R_reads' HO4.out).2.1
            have hC := (Kd.R_reads' HO4.out).2.2
            obtain ⟨i28, hi28, hi2, hi3, hi4⟩ := info_parts info3
            have cut1 : ∀ W : World, (Instr.slice 24 (.slice (some ad2) u.length co) none (some (.int .i64 (q : Int))) none).run Try.prog W = .ok (.slice (some ad2) q co) W := by
              have := cut_to (P := Try.prog) 24 3 .i64 Try.underlying24 hi28 (some ad2) u.length co (q : Int) (by omega) (by omega) hco
              simpa using this
            obtain ⟨Bo, hBo⟩ : ∃ Bo, Bo = if co = q then (some ad2) else (some ad2 : Option Addr).map (·.add (q * 1)) := ⟨_, rfl⟩
            have cut2 : ∀ W : World, (Instr.slice 24 (.slice (some ad2) u.length co) (some (.int .i64 (q : Int))) none none).run Try.prog W = .ok (.slice Bo (u.length - q) (co - q)) W := by
              have := cut_from (P := Try.prog) 24 3 .i64 Try.underlying24 hi28 1 hi3 (some ad2) u.length co (q : Int) (by omega) (by omega)
              rw [hBo]
              simpa using this
            have CT : Sh (Kd.C (Kd.int .i64) wq (some ad2) q (u.take q)) := ⟨by
              have := Kd.C_take hC hq
              rwa [List.length_take, Nat.min_eq_left hq] at this⟩
            have CD : Sh (Kd.C (Kd.int .i64) wq Bo (u.length - q) (u.drop q)) := ⟨by
              have := Kd.C_drop (m := q) hC hq hco
              rw [List.length_drop] at this
              rw [hBo]
              exact this⟩
            have HCO := Sh.mk hco
            clear hBo hi28 hi2 hi3 hi4 hco hC
            go_wp2_with fail
            have WB := Sh.mk (Below.refl wq.heap.size wq)
            go_region_law (first
              | (refine Kd.R_append_rows_step (Kd.int .i64) (w0 := wq) wq.heap.size (by rfl) (.tmp 35) (.tmp 38) 24 3 (.int .i64 0) 8 rfl Try.underlying24 info3 rfl (by decide) (by omega) (.slice (some ⟨_, 0, none⟩) 0 0) [] (u.take q) _ _ _ (fun _ => True) (fun _ => False) rfl rfl ?aO ?aR (fun _ _ h => h) (fun _ h => h.elim) (fun _ _ => trivial) ?aB ?aS ?aL ?_; (case aO => exact Rs_made0 WB.out); (case aR => repeat (first | exact CT.out | apply Kd.C_alloc | apply Kd.C_drewN | apply Kd.C_drew)); (case aB => repeat (first | exact WB.out | apply below_alloc | apply below_drew | apply pw_below_drewN)); (case aS => simp <;> omega); (case aL => simp only [List.length_nil]; omega); intro v1 w2 ho hb hg hat; clear hg hat; rw [List.nil_append] at ho; have HO1 := Sh.mk ho; have HB1 := Sh.mk hb; clear ho hb)
              | (refine Kd.R_append_rows_step (Kd.int .i64) (w0 := wq) wq.heap.size (by rfl) (.tmp 35) (.tmp 38) 24 3 (.int .i64 0) 8 rfl Try.underlying24 info3 rfl (by decide) (by omega) (.slice (some ⟨_, 0, none⟩) 0 0) [] (u.take q) _ _ _ (fun _ => True) (fun _ => False) rfl rfl ?aO ?aR (fun _ _ h => h) (fun _ h => h.elim) (fun _ _ => trivial) ?aB ?aS ?aL ?_; (case aO => exact Rs_made1 WB.out _); (case aR => repeat (first | exact CT.out | apply Kd.C_alloc | apply Kd.C_drewN | apply Kd.C_drew)); (case aB => repeat (first | exact WB.out | apply below_alloc | apply below_drew | apply pw_below_drewN)); (case aS => simp <;> omega); (case aL => simp only [List.length_nil]; omega); intro v1 w2 ho hb hg hat; have HX : Sh (Kd.C (Kd.int .i64) w2 (some ⟨wq.heap.size + 1, 0, none⟩) 1 [(n : Int)]) := ⟨Cs_one1 (n : Int) hg⟩; clear hg hat; rw [List.nil_append] at ho; have HO1 := Sh.mk ho; have HB1 := Sh.mk hb; clear ho hb)
              | (refine Kd.R_append_rows_step (Kd.int .i64) (w0 := wq) wq.heap.size (by rfl) (.tmp 35) (.tmp 38) 24 3 (.int .i64 0) 8 rfl Try.underlying24 info3 rfl (by decide) (by omega) (.slice (some ⟨_, 0, none⟩) 0 0) [] (u.take q) _ _ _ (fun _ => True) (fun _ => False) rfl rfl ?aO ?aR (fun _ _ h => h) (fun _ h => h.elim) (fun _ _ => trivial) ?aB ?aS ?aL ?_; (case aO => exact Rs_made2 WB.out _); (case aR => repeat (first | exact CT.out | apply Kd.C_alloc | apply Kd.C_drewN | apply Kd.C_drew)); (case aB => repeat (first | exact WB.out | apply below_alloc | apply below_drew | apply pw_below_drewN)); (case aS => simp <;> omega); (case aL => simp only [List.length_nil]; omega); intro v1 w2 ho hb hg hat; have HX : Sh (Kd.C (Kd.int .i64) w2 (some ⟨wq.heap.size, 0, none⟩) 1 [(n : Int)]) := ⟨Cs_one2 (n : Int) hg⟩; clear hg hat; rw [List.nil_append] at ho; have HO1 := Sh.mk ho; have HB1 := Sh.mk hb; clear ho hb)
              | (refine Kd.R_append_rows_step (Kd.int .i64) (w0 := wq) wq.heap.size (by rfl) (.tmp 39) (.tmp 41) 24 3 (.int .i64 0) 8 rfl Try.underlying24 info3 rfl (by decide) (by omega) v1 (u.take q) [(n : Int)] _ _ _ (fun _ => True) (fun _ => False) rfl rfl HO1.out HX.out (fun _ _ h => h) (fun _ h => h.elim) (fun _ _ => trivial) HB1.out ?aS ?aL ?_; (case aS => exact HB1.out.size); (case aL => simp only [List.length_take]; omega); intro v2 w3 ho hb hg hat; clear hg hat; have HO2 := Sh.mk ho; have HB2 := Sh.mk hb; clear ho hb)
              | (refine R_append_stepI (Kd.int .i64) (w0 := wq) wq.heap.size (by rfl) (.tmp 39) (.tmp 41) 24 3 (.int .i64 0) 8 rfl Try.underlying24 info3 rfl (by decide) (by omega) v1 (u.take q) (n : Int) [.int .i64 (n : Int)] (fun _ => True) (fun _ => False) rfl rfl rfl (fun _ hk => hk.elim) (fun _ _ => trivial) HO1.out HB1.out ?aS ?aL ?_; (case aS => exact HB1.out.size); (case aL => simp only [List.length_take]; omega); intro v2 w3 ho hb hg hat; clear hg hat; have HO2 := Sh.mk ho; have HB2 := Sh.mk hb; clear ho hb)
              | (refine Kd.R_append_rows_step (Kd.int .i64) (w0 := wq) wq.heap.size (by rfl) (.tmp 42) (.tmp 45) 24 3 (.int .i64 0) 8 rfl Try.underlying24 info3 rfl (by decide) (by omega) v2 (u.take q ++ [(n : Int)]) (u.drop q) _ _ _ (fun _ => True) (fun _ => False) rfl rfl HO2.out ?aR (fun _ _ h => h) (fun _ h => h.elim) (fun _ _ => trivial) HB2.out ?aS ?aL ?_; (case aR => exact Kd.C_below CD.out HB2.out); (case aS => exact HB2.out.size); (case aL => simp only [List.length_append, List.length_take, List.length_cons, List.length_nil]; omega); intro v3 w4 ho hb hg hat; clear hg hat; have HO3 := Sh.mk ho; have HB3 := Sh.mk hb; clear ho hb))
            all_goals go_wp2
            all_goals go_roundw
            all_goals first
              | (simp [intOf]; omega)
              | exact ⟨n + 1, sortU l (n + 1), by omega, by go_num, ⟨rfl⟩, by rw [sortU_len]; exact Nat.le_refl _, ⟨by rw [HE.out]; exact Kd.R_lower HO3.out HB4.out.size⟩, ⟨below_then HB4.out HB4.out.size HB3.out⟩⟩
        · have HE : Sh (sortU l (n + 1) = (u.take q ++ [(n : Int)]) ++ u.drop q) := ⟨by
            have : posF l u b u.length = q := by
              rw [HQ.out]
              obtain rfl : q = 0 := by omega
              rfl
            rw [HS.out, this]⟩
          have b1 : decide ((q : Int) > 0) = false := decide_eq_false (by omega)
          have b2 : decide (0 < q) = false := decide_eq_false c0
          clear hco hC
          go_wp2_with fail
          go_quiet (fail)
          rename_i nq
          have HO4 : Sh (Kd.R (Kd.int .i64) 3 (wr.drewN nq) w.heap.size (fun _ => True) (.slice Ao u.length co) u) := ⟨Kd.R_drewN HOi.out _⟩
          have HB4 : Sh (Below w.heap.size w (wr.drewN nq)) := ⟨pw_below_drewN HBi.out _⟩
          generalize wr.drewN nq = wq at HO4 HB4 ⊢
          have hco := (Kd.R_reads' HO4.out).2.1
          have hC := (Kd.R_reads' HO4.out).2.2
          obtain ⟨i28, hi28, hi2, hi3, hi4⟩ := info_parts info3
          have cut1 : ∀ W : World, (Instr.slice 24 (.slice Ao u.length co) none (some (.int .i64 (q : Int))) none).run Try.prog W = .ok (.slice Ao q co) W := by
            have := cut_to (P := Try.prog) 24 3 .i64 Try.underlying24 hi28 Ao u.length co (q : Int) (by omega) (by omega) hco
            simpa using this
          obtain ⟨Bo, hBo⟩ : ∃ Bo, Bo = if co = q then Ao else Ao.map (·.add (q * 1)) := ⟨_, rfl⟩
          have cut2 : ∀ W : World, (Instr.slice 24 (.slice Ao u.length co) (some (.int .i64 (q : Int))) none none).run Try.prog W = .ok (.slice Bo (u.length - q) (co - q)) W := by
            have := cut_from (P := Try.prog) 24 3 .i64 Try.underlying24 hi28 1 hi3 Ao u.length co (q : Int) (by omega) (by omega)
            rw [hBo]
            simpa using this
          have CT : Sh (Kd.C (Kd.int .i64) wq Ao q (u.take q)) := ⟨by
            have := Kd.C_take hC hq
            rwa [List.length_take, Nat.min_eq_left hq] at this⟩
          have CD : Sh (Kd.C (Kd.int .i64) wq Bo (u.length - q) (u.drop q)) := ⟨by
            have := Kd.C_drop (m := q) hC hq hco
            rw [List.length_drop] at this
            rw [hBo]
            exact this⟩
          have HCO := Sh.mk hco
          clear hBo hi28 hi2 hi3 hi4 hco hC
          go_wp2_with fail
          have WB := Sh.mk (Below.refl wq.heap.size wq)
          go_region_law (first
            | (refine Kd.R_append_rows_step (Kd.int .i64) (w0 := wq) wq.heap.size (by rfl) (.tmp 35) (.tmp 38) 24 3 (.int .i64 0) 8 rfl Try.underlying24 info3 rfl (by decide) (by omega) (.slice (some ⟨_, 0, none⟩) 0 0) [] (u.take q) _ _ _ (fun _ => True) (fun _ => False) rfl rfl ?aO ?aR (fun _ _ h => h) (fun _ h => h.elim) (fun _ _ => trivial) ?aB ?aS ?aL ?_; (case aO => exact Rs_made0 WB.out); (case aR => repeat (first | exact CT.out | apply Kd.C_alloc | apply Kd.C_drewN | apply Kd.C_drew)); (case aB => repeat (first | exact WB.out | apply below_alloc | apply below_drew | apply pw_below_drewN)); (case aS => simp <;> omega); (case aL => simp only [List.length_nil]; omega); intro v1 w2 ho hb hg hat; clear hg hat; rw [List.nil_append] at ho; have HO1 := Sh.mk ho; have HB1 := Sh.mk hb; clear ho hb)
            | (refine Kd.R_append_rows_step (Kd.int .i64) (w0 := wq) wq.heap.size (by rfl) (.tmp 35) (.tmp 38) 24 3 (.int .i64 0) 8 rfl Try.underlying24 info3 rfl (by decide) (by omega) (.slice (some ⟨_, 0, none⟩) 0 0) [] (u.take q) _ _ _ (fun _ => True) (fun _ => False) rfl rfl ?aO ?aR (fun _ _ h => h) (fun _ h => h.elim) (fun _ _ => trivial) ?aB ?aS ?aL ?_; (case aO => exact Rs_made1 WB.out _); (case aR => repeat (first | exact CT.out | apply Kd.C_alloc | apply Kd.C_drewN | apply Kd.C_drew)); (case aB => repeat (first | exact WB.out | apply below_alloc | apply below_drew | apply pw_below_drewN)); (case aS => simp <;> omega); (case aL => simp only [List.length_nil]; omega); intro v1 w2 ho hb hg hat; have HX : Sh (Kd.C (Kd.int .i64) w2 (some ⟨wq.heap.size + 1, 0, none⟩) 1 [(n : Int)]) := ⟨Cs_one1 (n : Int) hg⟩; clear hg hat; rw [List.nil_append] at ho; have HO1 := Sh.mk ho; have HB1 := Sh.mk hb; clear ho hb)
            | (refine Kd.R_append_rows_step (Kd.int .i64) (w0 := wq) wq.heap.size (by rfl) (.tmp 35) (.tmp 38) 24 3 (.int .i64 0) 8 rfl Try.underlying24 info3 rfl (by decide) (by omega) (.slice (some ⟨_, 0, none⟩) 0 0) [] (u.take q) _ _ _ (fun _ => True) (fun _ => False) rfl rfl ?aO ?aR (fun _ _ h => h) (fun _ h => h.elim) (fun _ _ => trivial) ?aB ?aS ?aL ?_; (case aO => exact Rs_made2 WB.out _); (case aR => repeat (first | exact CT.out | apply Kd.C_alloc | apply Kd.C_drewN | apply Kd.C_drew)); (case aB => repeat (first | exact WB.out | apply below_alloc | apply below_drew | apply pw_below_drewN)); (case aS => simp <;> omega); (case aL => simp only [List.length_nil]; omega); intro v1 w2 ho hb hg hat; have HX : Sh (Kd.C (Kd.int .i64) w2 (some ⟨wq.heap.size, 0, none⟩) 1 [(n : Int)]) := ⟨Cs_one2 (n : Int) hg⟩; clear hg hat; rw [List.nil_append] at ho; have HO1 := Sh.mk ho; have HB1 := Sh.mk hb; clear ho hb)
            | (refine Kd.R_append_rows_step (Kd.int .i64) (w0 := wq) wq.heap.size (by rfl) (.tmp 39) (.tmp 41) 24 3 (.int .i64 0) 8 rfl Try.underlying24 info3 rfl (by decide) (by omega) v1 (u.take q) [(n : Int)] _ _ _ (fun _ => True) (fun _ => False) rfl rfl HO1.out HX.out (fun _ _ h => h) (fun _ h => h.elim) (fun _ _ => trivial) HB1.out ?aS ?aL ?_; (case aS => exact HB1.out.size); (case aL => simp only [List.length_take]; omega); intro v2 w3 ho hb hg hat; clear hg hat; have HO2 := Sh.mk ho; have HB2 := Sh.mk hb; clear ho hb)
            | (refine R_append_stepI (Kd.int .i64) (w0 := wq) wq.heap.size (by rfl) (.tmp 39) (.tmp 41) 24 3 (.int .i64 0) 8 rfl Try.underlying24 info3 rfl (by decide) (by omega) v1 (u.take q) (n : Int) [.int .i64 (n : Int)] (fun _ => True) (fun _ => False) rfl rfl rfl (fun _ hk => hk.elim) (fun _ _ => trivial) HO1.out HB1.out ?aS ?aL ?_; (case aS => exact HB1.out.size); (case aL => simp only [List.length_take]; omega); intro v2 w3 ho hb hg hat; clear hg hat; have HO2 := Sh.mk ho; have HB2 := Sh.mk hb; clear ho hb)
            | (refine Kd.R_append_rows_step (Kd.int .i64) (w0 := wq) wq.heap.size (by rfl) (.tmp 42) (.tmp 45) 24 3 (.int .i64 0) 8 rfl Try.underlying24 info3 rfl (by decide) (by omega) v2 (u.take q ++ [(n : Int)]) (u.drop q) _ _ _ (fun _ => True) (fun _ => False) rfl rfl HO2.out ?aR (fun _ _ h => h) (fun _ h => h.elim) (fun _ _ => trivial) HB2.out ?aS ?aL ?_; (case aR => exact Kd.C_below CD.out HB2.out); (case aS => exact HB2.out.size); (case aL => simp only [List.length_append, List.length_take, List.length_cons, List.length_nil]; omega); intro v3 w4 ho hb hg hat; clear hg hat; have HO3 := Sh.mk ho; have HB3 := Sh.mk hb; clear ho hb))
          all_goals go_wp2
          all_goals go_roundw
          all_goals first
            | (simp [intOf]; omega)
            | exact ⟨n + 1, sortU l (n + 1), by omega, by go_num, ⟨rfl⟩, by rw [sortU_len]; exact Nat.le_refl _, ⟨by rw [HE.out]; exact Kd.R_lower HO3.out HB4.out.size⟩, ⟨below_then HB4.out HB4.out.size HB3.out⟩⟩
    · have HE : Sh (u = sortF l) := ⟨by rw [HU.out, show n = l.length by omega]; rfl⟩
      go_wp2
      go_ret
      exact ⟨_, rfl, by rw [← HE.out]; exact HO.out, HB.out⟩
end Go.Proofs.Ytpddppipjlagfaa
