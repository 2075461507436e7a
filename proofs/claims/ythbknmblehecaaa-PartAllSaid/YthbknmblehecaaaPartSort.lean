/- The document's Sort of pieces: its contract. No statement is proved here. -/
import Derived.Test.YthbknmblehecaaaSeven
namespace Go.Proofs.Ythbknmblehecaaa
set_option linter.unusedVariables false
set_option linter.unusedSimpArgs false
open Go.RowKit Go.Proofs.YthbknmblehecaaaW.PrintWords Go.Proofs.YthbknmblehecaaaW.PrintLast Go.Proofs.YthbknmblehecaaaW.PrintMore Pr Go.Proofs.Ythbknmblehecaaa.Pure

section
variable {P : Program} {ops : Array Oper} {o : Oper} {a : Act} {Q : Exit → Act → World → Prop} {Kc : Act → World → Prop} {α : Type}
theorem step_append_cellsI {w0 W : World} (base : Nat) (hw : Region.wanted o (yielded ops a.tmps) = true) (s x : Operand) (t e : TypeId) (z : Value) (size bytes : Nat)
    (ho : o.op = .call { callee := .builtin .append, args := #[s, x], argTypes := #[t, t] })
    (ht : P.underlying t = some (.slice e)) (hinfo : (P.info? e).map (fun i => (i.zero, i.size, i.bytes)) = some (some z, size, bytes)) (hz : z.cells.size = size) (hs0 : 0 < size) (hb0 : 0 < bytes)
    (v : Value) (n : Nat) (xs ys : List Value) (hs : a.eval s = v) (hx : a.eval x = .slice (some ⟨W.heap.size, 0, none⟩) 1 1) (hys : ys.length = size) (h1 : ∀ u ∈ ys, u.oneCell' = true)
    (HO : W.ownsRow base e size v n xs) (HB : Below base w0 W) (hbase : base ≤ W.heap.size) (hl : (n + 1) * bytes ≤ 140737488355328)
    (h : ∀ v1 w1, w1.ownsRow base e size v1 (n + 1) (xs ++ ys) → Below base w0 w1 → W.grownBy w1 v.ownBlock → (v1.ownBlock = v.ownBlock ∨ ∃ b, v1.ownBlock = some b ∧ W.heap.size ≤ b) → Kc (a.put o.dst v1) w1) :
    if Region.wanted o (yielded ops a.tmps) = true then Oper.wp P o a (W.alloc (.cells ys.toArray e)) Kc Q else Kc (a.put o.dst undef) (W.alloc (.cells ys.toArray e)) := by
  obtain ⟨i0, hi, hzz⟩ := Option.map_eq_some_iff.1 hinfo
  simp only [Prod.mk.injEq] at hzz
  obtain ⟨hz0, hz1, hz2⟩ := hzz
  have hlen : n + 1 ≤ 140737488355328 := Nat.le_trans (Nat.le_mul_of_pos_right _ hb0) hl
  rw [if_pos hw]
  obtain ⟨v1, w1, hr, hown, hg, _, hat⟩ := run_append_own_at (P := P) (W.alloc (.cells ys.toArray e)) base t o.type e i0 z size bytes ht hi hz0 hz1 hz2 hz hs0 v n xs (HO.alloc _) ⟨W.heap.size, 0, none⟩ 1 1 ys (by rw [hys]; simp)
    (by simpa using World.news_of_block (cs := ys.toArray) (t := e) (fr := (0, 0)) (heap_alloc_new W (.cells ys.toArray e))) h1 (by simp only [maxLen]; omega) hl (by simp; omega)
  unfold Oper.wp execOp
  simp only [ho, resolve, invoke, builtin, Sem.run_bind, Sem.run_pure, Result.andThen_ok, List.map_toArray, List.map_cons, List.map_nil, hs, hx, hr]
  refine h v1 w1 hown ((HB.alloc hbase _).grown hg (by simp; omega) (own_base HO)) (World.grownBy.trans (World.grownBy_alloc W _ _) hg) ?_
  rcases hat with hat | hat
  · exact .inl hat
  · exact .inr ⟨_, hat, by simp⟩
open Kd in
theorem R_append_stepI (d : Kd α) {w0 W : World} (base : Nat) (hw : Region.wanted o (yielded ops a.tmps) = true) (s x : Operand) (t e : TypeId) (z : Value) (bytes : Nat)
    (ho : o.op = .call { callee := .builtin .append, args := #[s, x], argTypes := #[t, t] })
    (ht : P.underlying t = some (.slice e)) (hinfo : (P.info? e).map (fun i => (i.zero, i.size, i.bytes)) = some (some z, d.sz, bytes)) (hz : z.cells.size = d.sz) (hs0 : 0 < d.sz) (hb0 : 0 < bytes)
    (v : Value) (xs : List α) (p : α) (cs : List Value) (ok okp : Nat → Prop) (hs : a.eval s = v) (hx : a.eval x = .slice (some ⟨W.heap.size, 0, none⟩) 1 1) (hp : d.M W base okp p cs) (hokp : ∀ k, okp k → ok k ∧ some k ≠ v.ownBlock) (hfresh : ∀ k, W.heap.size ≤ k → ok k)
    (HO : d.R e W base ok v xs) (HB : Below base w0 W) (hbase : base ≤ W.heap.size) (hl : (xs.length + 1) * bytes ≤ 140737488355328)
    (h : ∀ v1 w1, d.R e w1 base ok v1 (xs ++ [p]) → Below base w0 w1 → W.grownBy w1 v.ownBlock → (v1.ownBlock = v.ownBlock ∨ ∃ b, v1.ownBlock = some b ∧ W.heap.size ≤ b) → Kc (a.put o.dst v1) w1) :
    if Region.wanted o (yielded ops a.tmps) = true then Oper.wp P o a (W.alloc (.cells cs.toArray e)) Kc Q else Kc (a.put o.dst undef) (W.alloc (.cells cs.toArray e)) := by
  obtain ⟨h0, inner, hown, hr⟩ := HO
  refine step_append_cellsI base hw s x t e z d.sz bytes ho ht hinfo hz hs0 hb0 v xs.length inner cs hs hx (d.K_len (d.K_of_M hp)) (d.K_one (d.K_of_M hp)) hown HB hbase hl ?_
  intro v1 w1 hown1 hb1 hg1 hat1
  exact h v1 w1 (R_appended h0 hr hp hokp hfresh hown1 hg1 hat1) hb1 hg1 hat1
end
theorem Rs_made0 {w wr : World} (hb : Below w.heap.size w wr) : Kd.R k58 58 (wr.alloc (.cells #[] 58)).drew w.heap.size (fun _ => True) (.slice (some ⟨wr.heap.size, 0, none⟩) 0 0) [] :=
  ⟨fun _ _ => trivial, [], World.ownsRow_made wr #[] 0 hb.size (by simp [maxLen]) (by rfl), Reps.none _ _⟩
theorem Cs_blk1 {w2 : World} {g : Nat} {t : TypeId} {x : Pc} (h2 : Blk w2 g t #[.int .i64 x.f0, .int .i64 x.f1]) : Kd.C k58 w2 (some ⟨g, 0, none⟩) 1 [x] := by
  refine ⟨rfl, by omega, fun _ => ⟨_, rfl, fun j p hp => ⟨[.int .i64 p.f0, .int .i64 p.f1], rfl, k58_mk w2 p, fun i u hu => ?_⟩⟩⟩
  have hj : j = 0 := by have := (List.getElem?_eq_some_iff.1 hp).1; simp at this; exact this
  subst hj
  simp at hp
  subst hp
  rw [add_plain, h2.cell]
  match i, hu with
  | 0, hu => simpa using hu
  | 1, hu => simpa using hu
  | i + 2, hu => simp at hu
theorem Rs_made1 {w wr : World} (hb : Below w.heap.size w wr) (x : Pc) : Kd.R k58 58 ((wr.alloc (.cells #[] 58)).alloc (.cells #[.int .i64 x.f0, .int .i64 x.f1] 58)).drew w.heap.size (fun _ => True) (.slice (some ⟨wr.heap.size, 0, none⟩) 0 0) [] :=
  Kd.R_drew (Kd.R_alloc ⟨fun _ _ => trivial, [], World.ownsRow_made wr #[] 0 hb.size (by simp [maxLen]) (by rfl), Reps.none _ _⟩ _)
theorem Cs_one1 {wr w2 : World} (x : Pc) (hg : ((wr.alloc (.cells #[] 58)).alloc (.cells #[.int .i64 x.f0, .int .i64 x.f1] 58)).drew.grownBy w2 (Value.slice (some ⟨wr.heap.size, 0, none⟩) 0 0).ownBlock) : Kd.C k58 w2 (some ⟨wr.heap.size + 1, 0, none⟩) 1 [x] := by
  have h1 : Blk ((wr.alloc (.cells #[] 58)).alloc (.cells #[.int .i64 x.f0, .int .i64 x.f1] 58)).drew (wr.heap.size + 1) 58 #[.int .i64 x.f0, .int .i64 x.f1] := (Blk.new_ _ _ _ (by simp)).drew
  have h2 : Blk w2 (wr.heap.size + 1) 58 #[.int .i64 x.f0, .int .i64 x.f1] := (hg.block _ h1.lt (fun e => by simp [Value.ownBlock] at e)).trans h1
  exact Cs_blk1 h2
theorem Rs_made2 {w wr : World} (hb : Below w.heap.size w wr) (x : Pc) : Kd.R k58 58 ((wr.alloc (.cells #[.int .i64 x.f0, .int .i64 x.f1] 58)).alloc (.cells #[] 58)).drew w.heap.size (fun _ => True) (.slice (some ⟨wr.heap.size + 1, 0, none⟩) 0 0) [] := by
  have h := Kd.R_drew (d := k58) (e := 58) (base := w.heap.size) (ok := fun _ => True) (xs := []) (v := .slice (some ⟨(wr.alloc (.cells #[.int .i64 x.f0, .int .i64 x.f1] 58)).heap.size, 0, none⟩) 0 0) (w := (wr.alloc (.cells #[.int .i64 x.f0, .int .i64 x.f1] 58)).alloc (.cells #[] 58)) ⟨fun _ _ => trivial, [], World.ownsRow_made (wr.alloc (.cells #[.int .i64 x.f0, .int .i64 x.f1] 58)) #[] 0 (by have := hb.size; simp; omega) (by simp [maxLen]) (by rfl), Reps.none _ _⟩
  simpa using h
theorem Cs_one2 {wr w2 : World} (x : Pc) (hg : ((wr.alloc (.cells #[.int .i64 x.f0, .int .i64 x.f1] 58)).alloc (.cells #[] 58)).drew.grownBy w2 (Value.slice (some ⟨wr.heap.size + 1, 0, none⟩) 0 0).ownBlock) : Kd.C k58 w2 (some ⟨wr.heap.size, 0, none⟩) 1 [x] := by
  have h1 : Blk ((wr.alloc (.cells #[.int .i64 x.f0, .int .i64 x.f1] 58)).alloc (.cells #[] 58)).drew wr.heap.size 58 #[.int .i64 x.f0, .int .i64 x.f1] := ((Blk.new wr _ _).alloc _).drew
  have h2 : Blk w2 wr.heap.size 58 #[.int .i64 x.f0, .int .i64 x.f1] := (hg.block _ h1.lt (fun e => by simp [Value.ownBlock] at e)).trans h1
  exact Cs_blk1 h2
set_option maxRecDepth 100000 in
set_option maxHeartbeats 8000000 in
theorem sort_any (A : Option Addr) (c : Nat) (l : List Pc) (w : World) (hr : Kd.C k58 w A l.length l) (hc : l.length ≤ c) (hl : l.length ≤ 100000) :
    Calls Try.prog 60 #[.slice A l.length c] w fun e w' => ∃ v, e = .returned v ∧ Kd.R k58 58 w' w.heap.size (fun _ => True) v (sortP l) ∧ Below w.heap.size w w' := by
  have hu58 := Try.underlying58
  have HRR := Sh.mk hr
  obtain ⟨N, hN⟩ : ∃ N, N = l.length := ⟨_, rfl⟩
  have HNN := Sh.mk hN
  rw [← hN] at hc hl HRR ⊢
  clear hr hN
  go_enter Try.func60, Try.ntmps60
  go_wp2
  go_loopw [3, 4, 5] (fun lv i kv wr => ∃ (n : Nat) (u : List Pc), n ≤ N ∧ i = .int .i64 n ∧ Sh (u = sortP (l.take n)) ∧ u.length ≤ n ∧ Sh (Kd.R k58 58 wr w.heap.size (fun _ => True) lv u) ∧ Sh (Below w.heap.size w wr)) (fun lv i kv _ => N - (intOf i).toNat)
  case atStart => exact ⟨0, [], Nat.zero_le _, rfl, ⟨rfl⟩, Nat.le_refl _, ⟨Kd.R_nil _ _ _ _ _⟩, ⟨Below.refl _ _⟩⟩
  case round =>
    obtain ⟨n, u, hn, rfl, HU, hun, HO, HB⟩ := hrel
    obtain ⟨Ao, co, eo⟩ := Kd.R_slice HO.out
    subst eo
    by_cases hlt : n < N
    · obtain ⟨x, hx⟩ : ∃ x, l[n]? = some x := ⟨_, List.getElem?_eq_getElem (by have := HNN.out; omega)⟩
      have HXL := Sh.mk hx
      have hset : sortP (l.take (n + 1)) = insP x u := by
        obtain ⟨h1, h2⟩ := List.getElem?_eq_some_iff.1 hx
        rw [List.take_succ_eq_append_getElem h1, h2, HU.out]
        simp [sortP, sortF]
      have HST := Sh.mk hset
      have hus : Srt u := by rw [HU.out]; exact (sortP_is _).srt
      have HUS := Sh.mk hus
      have HCX : Sh (∃ ad : Addr, A = some ad ∧ ∀ W, Below w.heap.size w W → W.cell? (ad.add (n * 2)) = some (.int .i64 x.f0) ∧ W.cell? ⟨(ad.add (n * 2)).block, (ad.add (n * 2)).off + 1, none⟩ = some (.int .i64 x.f1)) := ⟨by
        have hrd : rd_T58 l (n : Int) = x := by simp [rd_T58, List.getD_eq_getElem?_getD, hx]
        obtain ⟨ad, e, -⟩ := at_T58 HRR.out (n : Int) (by omega) (by omega)
        refine ⟨ad, e, fun W hW => ?_⟩
        obtain ⟨ad', e', h1, h2⟩ := at_T58 (Kd.C_below HRR.out hW) (n : Int) (by omega) (by omega)
        obtain rfl : ad = ad' := Option.some.inj (e.symm.trans e')
        rw [hrd, Int.toNat_natCast] at h1 h2
        exact ⟨h1, h2⟩⟩
      obtain ⟨ad, rfl, hcx⟩ := HCX.out
      clear HCX
      obtain ⟨x0, hx0⟩ : ∃ x0, x0 = x.f0 := ⟨_, rfl⟩
      obtain ⟨x1, hx1⟩ : ∃ x1, x1 = x.f1 := ⟨_, rfl⟩
      rw [← hx0, ← hx1] at hcx
      have HX01 := Sh.mk (And.intro hx0 hx1)
      have HCX := Sh.mk hcx
      clear hcx hx hset hus hx0 hx1
      go_wp2
      go_loopw [5] (fun j wr => ∃ q : Nat, q ≤ u.length ∧ j = .int .i64 q ∧ Sh (∀ y ∈ u.drop q, x.f0 < y.f0) ∧ Sh (Kd.R k58 58 wr w.heap.size (fun _ => True) (.slice Ao u.length co) u) ∧ Sh (Below w.heap.size w wr)) (fun j _ => (intOf j).toNat)
      case atStart => exact ⟨u.length, Nat.le_refl _, rfl, ⟨by simp⟩, HO, HB⟩
      case round =>
        obtain ⟨q, hq, rfl, HQ, HOi, HBi⟩ := hrel
        have hco := (Kd.R_reads' HOi.out).2.1
        have hC := (Kd.R_reads' HOi.out).2.2
        by_cases c0 : 0 < q
        · obtain ⟨p, rfl⟩ : ∃ p, q = p + 1 := ⟨q - 1, by omega⟩
          obtain ⟨y, hy⟩ : ∃ y, u[p]? = some y := ⟨_, List.getElem?_eq_getElem (by omega)⟩
          obtain ⟨ad2, e2, hcell2, -⟩ := at_T58 hC (p : Int) (by omega) (by omega)
          have hrd : rd_T58 u (p : Int) = y := by simp [rd_T58, List.getD_eq_getElem?_getD, hy]
          rw [hrd, Int.toNat_natCast] at hcell2
          subst e2
          obtain ⟨hcx0, -⟩ := HCX.out _ HBi.out
          obtain ⟨y0, hy0⟩ : ∃ y0, y0 = y.f0 := ⟨_, rfl⟩
          rw [← hy0] at hcell2
          have b1 : decide ((p : Int) + 1 > 0) = true := decide_eq_true (by omega)
          have b2 : decide (0 < p + 1) = true := decide_eq_true c0
          have z1 : (p : Int) < (u.length : Int) := by omega
          have z2 : (n : Int) < (N : Int) := by omega
          have v1 : IntKind.i64.wrap (p : Int) = (p : Int) := by rw [IntKind.wrap_i64]; omega
          by_cases cc : x0 < y0
          · have HQ2 : Sh (∀ z ∈ u.drop p, x.f0 < z.f0) := ⟨by
              obtain ⟨h1, h2⟩ := List.getElem?_eq_some_iff.1 hy
              intro z hz
              rw [List.drop_eq_getElem_cons h1, h2] at hz
              rcases List.mem_cons.1 hz with rfl | hz
              · rw [← HX01.out.1, ← hy0]; exact cc
              · exact HQ.out z hz⟩
            have b3 : decide (y0 > x0) = true := decide_eq_true cc
            clear hy hrd hco hC cc hy0
            go_wp2_with fail
            go_quiet (fail)
            go_wp2
            go_roundw
            case measure => first | (simp [intOf]; done) | (simp [intOf]; omega)
            case rel => exact ⟨p, by omega, by go_num, HQ2, ⟨Kd.R_drewN HOi.out _⟩, ⟨pw_below_drewN HBi.out _⟩⟩
          · have HLE : Sh (∀ z ∈ u.take (p + 1), z.f0 ≤ x.f0) := ⟨by
              obtain ⟨h1, h2⟩ := List.getElem?_eq_some_iff.1 hy
              have hs : Srt (u.take p ++ u.drop p) := by rw [List.take_append_drop]; exact HUS.out
              rw [List.drop_eq_getElem_cons h1, h2] at hs
              intro z hz
              rw [List.take_succ_eq_append_getElem h1, h2] at hz
              have h3 : y.f0 ≤ x.f0 := by rw [← HX01.out.1, ← hy0]; omega
              rcases List.mem_append.1 hz with hz | hz
              · have := srt_cross hs z hz y (by simp); omega
              · simp at hz; subst hz; exact h3⟩
            have b3 : decide (y0 > x0) = false := decide_eq_false cc
            clear hy hrd hco hC cc hy0
            go_wp2_with fail
            go_quiet (fail)
            rename_i nq
            clear b1 b2 b3 v1 z1
            generalize p + 1 = q at HQ HLE hq ⊢
            have HO4 : Sh (Kd.R k58 58 (wr.drewN nq) w.heap.size (fun _ => True) (.slice (some ad2) u.length co) u) := ⟨Kd.R_drewN HOi.out _⟩
            have HB4 : Sh (Below w.heap.size w (wr.drewN nq)) := ⟨pw_below_drewN HBi.out _⟩
            generalize wr.drewN nq = wq at HO4 HB4 ⊢
            have hco := (Kd.R_reads' HO4.out).2.1
            have hC := (Kd.R_reads' HO4.out).2.2
            obtain ⟨i28, hi28, hi2, hi3, hi4⟩ := info_parts infoPc
            have cut1 : ∀ W : World, (Instr.slice 44 (.slice (some ad2) u.length co) none (some (.int .i64 (q : Int))) none).run Try.prog W = .ok (.slice (some ad2) q co) W := by
              have := cut_to (P := Try.prog) 44 58 .i64 Try.underlying44 hi28 (some ad2) u.length co (q : Int) (by omega) (by omega) hco
              simpa using this
            obtain ⟨Bo, hBo⟩ : ∃ Bo, Bo = if co = q then ((some ad2)) else ((some ad2) : Option Addr).map (·.add (q * 2)) := ⟨_, rfl⟩
            have cut2 : ∀ W : World, (Instr.slice 44 (.slice (some ad2) u.length co) (some (.int .i64 (q : Int))) none none).run Try.prog W = .ok (.slice Bo (u.length - q) (co - q)) W := by
              have := cut_from (P := Try.prog) 44 58 .i64 Try.underlying44 hi28 2 hi3 ((some ad2)) u.length co (q : Int) (by omega) (by omega)
              rw [hBo]
              simpa using this
            have CT : Sh (Kd.C k58 wq ((some ad2)) q (u.take q)) := ⟨by
              have := Kd.C_take hC hq
              rwa [List.length_take, Nat.min_eq_left hq] at this⟩
            have CD : Sh (Kd.C k58 wq Bo (u.length - q) (u.drop q)) := ⟨by
              have := Kd.C_drop (m := q) hC hq hco
              rw [List.length_drop] at this
              rw [hBo]
              exact this⟩
            have HQL : Sh (q ≤ u.length ∧ u.length ≤ 100000) := ⟨⟨hq, by omega⟩⟩
            have HCW : Sh (∀ W, Below wq.heap.size wq W → W.cell? (ad.add (n * 2)) = some (.int .i64 x0) ∧ W.cell? ⟨(ad.add (n * 2)).block, (ad.add (n * 2)).off + 1, none⟩ = some (.int .i64 x1)) := ⟨fun W hW => HCX.out W (below_step HB4.out hW)⟩
            obtain ⟨hcxa, hcxb⟩ := HCW.out wq (Below.refl _ _)
            obtain ⟨hcxc, hcxd⟩ := HCW.out (wq.alloc (.cells #[] 58)).drew (below_alloc (Below.refl _ _) _).drew
            have HNEW : Sh (sortP (l.take (n + 1)) = (u.take q ++ [x]) ++ u.drop q) := ⟨by
              rw [HST.out]
              have := insP_split x (u.take q) (u.drop q) HLE.out HQ.out
              rw [List.take_append_drop] at this
              rw [this]; simp⟩
            have HSZ : Sh (Below w.heap.size w wq) := HB4
            clear hBo hi28 hi2 hi3 hi4 hco hC
            go_wp2_with fail
            have WB := Sh.mk (Below.refl wq.heap.size wq)
            have hxx := HX01.out
            obtain ⟨rfl, rfl⟩ := hxx
            go_region_law (first
              | (refine Kd.R_append_rows_step k58 (w0 := wq) wq.heap.size (by rfl) (.tmp 32) (.tmp 35) 44 58 (.agg #[.int .i64 0, .int .i64 0]) 16 rfl Try.underlying44 infoPc rfl (by decide) (by omega) (.slice (some ⟨_, 0, none⟩) 0 0) [] (u.take q) _ _ _ (fun _ => True) (fun _ => False) rfl rfl ?aO ?aR (fun _ _ h => h) (fun _ h => h.elim) (fun _ _ => trivial) ?aB ?aS ?aL ?_; (case aO => exact Rs_made0 WB.out); (case aR => repeat (first | exact CT.out | apply Kd.C_alloc | apply Kd.C_drewN | apply Kd.C_drew)); (case aB => repeat (first | exact WB.out | apply below_alloc | apply below_drew | apply pw_below_drewN)); (case aS => simp <;> omega); (case aL => have := HQL.out; simp only [List.length_nil, List.length_take]; omega); intro v1 w2 ho hb hg hat; clear hg hat; rw [List.nil_append] at ho; have HO1 := Sh.mk ho; have HB1 := Sh.mk hb; obtain ⟨hcx2, hcx3⟩ := HCW.out w2 hb; clear ho hb)
              | (refine Kd.R_append_rows_step k58 (w0 := wq) wq.heap.size (by rfl) (.tmp 32) (.tmp 35) 44 58 (.agg #[.int .i64 0, .int .i64 0]) 16 rfl Try.underlying44 infoPc rfl (by decide) (by omega) (.slice (some ⟨_, 0, none⟩) 0 0) [] (u.take q) _ _ _ (fun _ => True) (fun _ => False) rfl rfl ?aO ?aR (fun _ _ h => h) (fun _ h => h.elim) (fun _ _ => trivial) ?aB ?aS ?aL ?_; (case aO => exact Rs_made1 WB.out _); (case aR => repeat (first | exact CT.out | apply Kd.C_alloc | apply Kd.C_drewN | apply Kd.C_drew)); (case aB => repeat (first | exact WB.out | apply below_alloc | apply below_drew | apply pw_below_drewN)); (case aS => simp <;> omega); (case aL => have := HQL.out; simp only [List.length_nil, List.length_take]; omega); intro v1 w2 ho hb hg hat; have HX : Sh (Kd.C k58 w2 (some ⟨wq.heap.size + 1, 0, none⟩) 1 [x]) := ⟨Cs_one1 x hg⟩; clear hg hat; rw [List.nil_append] at ho; have HO1 := Sh.mk ho; have HB1 := Sh.mk hb; obtain ⟨hcx2, hcx3⟩ := HCW.out w2 hb; clear ho hb)
              | (refine Kd.R_append_rows_step k58 (w0 := wq) wq.heap.size (by rfl) (.tmp 32) (.tmp 35) 44 58 (.agg #[.int .i64 0, .int .i64 0]) 16 rfl Try.underlying44 infoPc rfl (by decide) (by omega) (.slice (some ⟨_, 0, none⟩) 0 0) [] (u.take q) _ _ _ (fun _ => True) (fun _ => False) rfl rfl ?aO ?aR (fun _ _ h => h) (fun _ h => h.elim) (fun _ _ => trivial) ?aB ?aS ?aL ?_; (case aO => exact Rs_made2 WB.out _); (case aR => repeat (first | exact CT.out | apply Kd.C_alloc | apply Kd.C_drewN | apply Kd.C_drew)); (case aB => repeat (first | exact WB.out | apply below_alloc | apply below_drew | apply pw_below_drewN)); (case aS => simp <;> omega); (case aL => have := HQL.out; simp only [List.length_nil, List.length_take]; omega); intro v1 w2 ho hb hg hat; have HX : Sh (Kd.C k58 w2 (some ⟨wq.heap.size, 0, none⟩) 1 [x]) := ⟨Cs_one2 x hg⟩; clear hg hat; rw [List.nil_append] at ho; have HO1 := Sh.mk ho; have HB1 := Sh.mk hb; obtain ⟨hcx2, hcx3⟩ := HCW.out w2 hb; clear ho hb)
              | (refine Kd.R_append_rows_step k58 (w0 := wq) wq.heap.size (by rfl) (.tmp 36) (.tmp 41) 44 58 (.agg #[.int .i64 0, .int .i64 0]) 16 rfl Try.underlying44 infoPc rfl (by decide) (by omega) v1 (u.take q) [x] _ _ _ (fun _ => True) (fun _ => False) rfl rfl HO1.out HX.out (fun _ _ h => h) (fun _ h => h.elim) (fun _ _ => trivial) HB1.out ?aS ?aL ?_; (case aS => exact HB1.out.size); (case aL => have := HQL.out; simp only [List.length_take, List.length_cons, List.length_nil]; omega); intro v2 w3 ho hb hg hat; clear hg hat; have HO2 := Sh.mk ho; have HB2 := Sh.mk hb; clear ho hb)
              | (refine R_append_stepI k58 (w0 := wq) wq.heap.size (by rfl) (.tmp 36) (.tmp 41) 44 58 (.agg #[.int .i64 0, .int .i64 0]) 16 rfl Try.underlying44 infoPc rfl (by decide) (by omega) v1 (u.take q) x [.int .i64 x.f0, .int .i64 x.f1] (fun _ => True) (fun _ => False) rfl rfl (k58_mkM _ _ _ x) (fun _ hk => hk.elim) (fun _ _ => trivial) HO1.out HB1.out ?aS ?aL ?_; (case aS => exact HB1.out.size); (case aL => have := HQL.out; simp only [List.length_take]; omega); intro v2 w3 ho hb hg hat; clear hg hat; have HO2 := Sh.mk ho; have HB2 := Sh.mk hb; clear ho hb)
              | (refine Kd.R_append_rows_step k58 (w0 := wq) wq.heap.size (by rfl) (.tmp 42) (.tmp 45) 44 58 (.agg #[.int .i64 0, .int .i64 0]) 16 rfl Try.underlying44 infoPc rfl (by decide) (by omega) v2 (u.take q ++ [x]) (u.drop q) _ _ _ (fun _ => True) (fun _ => False) rfl rfl HO2.out ?aR (fun _ _ h => h) (fun _ h => h.elim) (fun _ _ => trivial) HB2.out ?aS ?aL ?_; (case aR => exact Kd.C_below CD.out HB2.out); (case aS => exact HB2.out.size); (case aL => have := HQL.out; simp only [List.length_append, List.length_take, List.length_drop, List.length_cons, List.length_nil]; omega); intro v3 w4 ho hb hg hat; clear hg hat; have HO3 := Sh.mk ho; have HB3 := Sh.mk hb; clear ho hb))
            all_goals go_wp2
            all_goals go_roundw
            all_goals first
              | (simp [intOf]; omega)
              | exact ⟨n + 1, sortP (l.take (n + 1)), by omega, by go_num, ⟨rfl⟩, by rw [sortP_length, List.length_take]; omega, ⟨by rw [HNEW.out]; exact Kd.R_lower HO3.out HB4.out.size⟩, ⟨below_then HB4.out HB4.out.size HB3.out⟩⟩
        · have HLE : Sh (∀ z ∈ u.take q, z.f0 ≤ x.f0) := ⟨by rw [show q = 0 by omega]; simp⟩
          have b1 : decide ((q : Int) > 0) = false := decide_eq_false (by omega)
          have b2 : decide (0 < q) = false := decide_eq_false c0
          clear hco hC
          go_wp2_with fail
          go_quiet (fail)
          rename_i nq
          clear b1 b2
          have HO4 : Sh (Kd.R k58 58 (wr.drewN nq) w.heap.size (fun _ => True) (.slice Ao u.length co) u) := ⟨Kd.R_drewN HOi.out _⟩
          have HB4 : Sh (Below w.heap.size w (wr.drewN nq)) := ⟨pw_below_drewN HBi.out _⟩
          generalize wr.drewN nq = wq at HO4 HB4 ⊢
          have hco := (Kd.R_reads' HO4.out).2.1
          have hC := (Kd.R_reads' HO4.out).2.2
          obtain ⟨i28, hi28, hi2, hi3, hi4⟩ := info_parts infoPc
          have cut1 : ∀ W : World, (Instr.slice 44 (.slice Ao u.length co) none (some (.int .i64 (q : Int))) none).run Try.prog W = .ok (.slice Ao q co) W := by
            have := cut_to (P := Try.prog) 44 58 .i64 Try.underlying44 hi28 Ao u.length co (q : Int) (by omega) (by omega) hco
            simpa using this
          obtain ⟨Bo, hBo⟩ : ∃ Bo, Bo = if co = q then (Ao) else (Ao : Option Addr).map (·.add (q * 2)) := ⟨_, rfl⟩
          have cut2 : ∀ W : World, (Instr.slice 44 (.slice Ao u.length co) (some (.int .i64 (q : Int))) none none).run Try.prog W = .ok (.slice Bo (u.length - q) (co - q)) W := by
            have := cut_from (P := Try.prog) 44 58 .i64 Try.underlying44 hi28 2 hi3 (Ao) u.length co (q : Int) (by omega) (by omega)
            rw [hBo]
            simpa using this
          have CT : Sh (Kd.C k58 wq (Ao) q (u.take q)) := ⟨by
            have := Kd.C_take hC hq
            rwa [List.length_take, Nat.min_eq_left hq] at this⟩
          have CD : Sh (Kd.C k58 wq Bo (u.length - q) (u.drop q)) := ⟨by
            have := Kd.C_drop (m := q) hC hq hco
            rw [List.length_drop] at this
            rw [hBo]
            exact this⟩
          have HQL : Sh (q ≤ u.length ∧ u.length ≤ 100000) := ⟨⟨hq, by omega⟩⟩
          have HCW : Sh (∀ W, Below wq.heap.size wq W → W.cell? (ad.add (n * 2)) = some (.int .i64 x0) ∧ W.cell? ⟨(ad.add (n * 2)).block, (ad.add (n * 2)).off + 1, none⟩ = some (.int .i64 x1)) := ⟨fun W hW => HCX.out W (below_step HB4.out hW)⟩
          obtain ⟨hcxa, hcxb⟩ := HCW.out wq (Below.refl _ _)
          obtain ⟨hcxc, hcxd⟩ := HCW.out (wq.alloc (.cells #[] 58)).drew (below_alloc (Below.refl _ _) _).drew
          have HNEW : Sh (sortP (l.take (n + 1)) = (u.take q ++ [x]) ++ u.drop q) := ⟨by
            rw [HST.out]
            have := insP_split x (u.take q) (u.drop q) HLE.out HQ.out
            rw [List.take_append_drop] at this
            rw [this]; simp⟩
          have HSZ : Sh (Below w.heap.size w wq) := HB4
          clear hBo hi28 hi2 hi3 hi4 hco hC
          go_wp2_with fail
          have WB := Sh.mk (Below.refl wq.heap.size wq)
          have hxx := HX01.out
          obtain ⟨rfl, rfl⟩ := hxx
          go_region_law (first
            | (refine Kd.R_append_rows_step k58 (w0 := wq) wq.heap.size (by rfl) (.tmp 32) (.tmp 35) 44 58 (.agg #[.int .i64 0, .int .i64 0]) 16 rfl Try.underlying44 infoPc rfl (by decide) (by omega) (.slice (some ⟨_, 0, none⟩) 0 0) [] (u.take q) _ _ _ (fun _ => True) (fun _ => False) rfl rfl ?aO ?aR (fun _ _ h => h) (fun _ h => h.elim) (fun _ _ => trivial) ?aB ?aS ?aL ?_; (case aO => exact Rs_made0 WB.out); (case aR => repeat (first | exact CT.out | apply Kd.C_alloc | apply Kd.C_drewN | apply Kd.C_drew)); (case aB => repeat (first | exact WB.out | apply below_alloc | apply below_drew | apply pw_below_drewN)); (case aS => simp <;> omega); (case aL => have := HQL.out; simp only [List.length_nil, List.length_take]; omega); intro v1 w2 ho hb hg hat; clear hg hat; rw [List.nil_append] at ho; have HO1 := Sh.mk ho; have HB1 := Sh.mk hb; obtain ⟨hcx2, hcx3⟩ := HCW.out w2 hb; clear ho hb)
            | (refine Kd.R_append_rows_step k58 (w0 := wq) wq.heap.size (by rfl) (.tmp 32) (.tmp 35) 44 58 (.agg #[.int .i64 0, .int .i64 0]) 16 rfl Try.underlying44 infoPc rfl (by decide) (by omega) (.slice (some ⟨_, 0, none⟩) 0 0) [] (u.take q) _ _ _ (fun _ => True) (fun _ => False) rfl rfl ?aO ?aR (fun _ _ h => h) (fun _ h => h.elim) (fun _ _ => trivial) ?aB ?aS ?aL ?_; (case aO => exact Rs_made1 WB.out _); (case aR => repeat (first | exact CT.out | apply Kd.C_alloc | apply Kd.C_drewN | apply Kd.C_drew)); (case aB => repeat (first | exact WB.out | apply below_alloc | apply below_drew | apply pw_below_drewN)); (case aS => simp <;> omega); (case aL => have := HQL.out; simp only [List.length_nil, List.length_take]; omega); intro v1 w2 ho hb hg hat; have HX : Sh (Kd.C k58 w2 (some ⟨wq.heap.size + 1, 0, none⟩) 1 [x]) := ⟨Cs_one1 x hg⟩; clear hg hat; rw [List.nil_append] at ho; have HO1 := Sh.mk ho; have HB1 := Sh.mk hb; obtain ⟨hcx2, hcx3⟩ := HCW.out w2 hb; clear ho hb)
            | (refine Kd.R_append_rows_step k58 (w0 := wq) wq.heap.size (by rfl) (.tmp 32) (.tmp 35) 44 58 (.agg #[.int .i64 0, .int .i64 0]) 16 rfl Try.underlying44 infoPc rfl (by decide) (by omega) (.slice (some ⟨_, 0, none⟩) 0 0) [] (u.take q) _ _ _ (fun _ => True) (fun _ => False) rfl rfl ?aO ?aR (fun _ _ h => h) (fun _ h => h.elim) (fun _ _ => trivial) ?aB ?aS ?aL ?_; (case aO => exact Rs_made2 WB.out _); (case aR => repeat (first | exact CT.out | apply Kd.C_alloc | apply Kd.C_drewN | apply Kd.C_drew)); (case aB => repeat (first | exact WB.out | apply below_alloc | apply below_drew | apply pw_below_drewN)); (case aS => simp <;> omega); (case aL => have := HQL.out; simp only [List.length_nil, List.length_take]; omega); intro v1 w2 ho hb hg hat; have HX : Sh (Kd.C k58 w2 (some ⟨wq.heap.size, 0, none⟩) 1 [x]) := ⟨Cs_one2 x hg⟩; clear hg hat; rw [List.nil_append] at ho; have HO1 := Sh.mk ho; have HB1 := Sh.mk hb; obtain ⟨hcx2, hcx3⟩ := HCW.out w2 hb; clear ho hb)
            | (refine Kd.R_append_rows_step k58 (w0 := wq) wq.heap.size (by rfl) (.tmp 36) (.tmp 41) 44 58 (.agg #[.int .i64 0, .int .i64 0]) 16 rfl Try.underlying44 infoPc rfl (by decide) (by omega) v1 (u.take q) [x] _ _ _ (fun _ => True) (fun _ => False) rfl rfl HO1.out HX.out (fun _ _ h => h) (fun _ h => h.elim) (fun _ _ => trivial) HB1.out ?aS ?aL ?_; (case aS => exact HB1.out.size); (case aL => have := HQL.out; simp only [List.length_take, List.length_cons, List.length_nil]; omega); intro v2 w3 ho hb hg hat; clear hg hat; have HO2 := Sh.mk ho; have HB2 := Sh.mk hb; clear ho hb)
            | (refine R_append_stepI k58 (w0 := wq) wq.heap.size (by rfl) (.tmp 36) (.tmp 41) 44 58 (.agg #[.int .i64 0, .int .i64 0]) 16 rfl Try.underlying44 infoPc rfl (by decide) (by omega) v1 (u.take q) x [.int .i64 x.f0, .int .i64 x.f1] (fun _ => True) (fun _ => False) rfl rfl (k58_mkM _ _ _ x) (fun _ hk => hk.elim) (fun _ _ => trivial) HO1.out HB1.out ?aS ?aL ?_; (case aS => exact HB1.out.size); (case aL => have := HQL.out; simp only [List.length_take]; omega); intro v2 w3 ho hb hg hat; clear hg hat; have HO2 := Sh.mk ho; have HB2 := Sh.mk hb; clear ho hb)
            | (refine Kd.R_append_rows_step k58 (w0 := wq) wq.heap.size (by rfl) (.tmp 42) (.tmp 45) 44 58 (.agg #[.int .i64 0, .int .i64 0]) 16 rfl Try.underlying44 infoPc rfl (by decide) (by omega) v2 (u.take q ++ [x]) (u.drop q) _ _ _ (fun _ => True) (fun _ => False) rfl rfl HO2.out ?aR (fun _ _ h => h) (fun _ h => h.elim) (fun _ _ => trivial) HB2.out ?aS ?aL ?_; (case aR => exact Kd.C_below CD.out HB2.out); (case aS => exact HB2.out.size); (case aL => have := HQL.out; simp only [List.length_append, List.length_take, List.length_drop, List.length_cons, List.length_nil]; omega); intro v3 w4 ho hb hg hat; clear hg hat; have HO3 := Sh.mk ho; have HB3 := Sh.mk hb; clear ho hb))
          all_goals go_wp2
          all_goals go_roundw
          all_goals first
            | (simp [intOf]; omega)
            | exact ⟨n + 1, sortP (l.take (n + 1)), by omega, by go_num, ⟨rfl⟩, by rw [sortP_length, List.length_take]; omega, ⟨by rw [HNEW.out]; exact Kd.R_lower HO3.out HB4.out.size⟩, ⟨below_then HB4.out HB4.out.size HB3.out⟩⟩
    · have HE : Sh (u = sortP l) := ⟨by rw [HU.out, List.take_of_length_le (by have := HNN.out; omega)]⟩
      go_wp2
      go_ret
      exact ⟨_, rfl, by rw [← HE.out]; exact HO.out, HB.out⟩
end Go.Proofs.Ythbknmblehecaaa
