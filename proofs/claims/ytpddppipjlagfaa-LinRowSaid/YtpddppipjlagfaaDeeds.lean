/- The statements' Deeds: its contract. No statement is proved here. -/
import Derived.Test.YtpddppipjlagfaaAccepts
import Derived.IntWalk
import Derived.Outline
import Derived.StillTailTactics
namespace Go.Proofs.Ytpddppipjlagfaa
set_option linter.unusedVariables false
set_option linter.unusedSimpArgs false
open Go.RowKit Go.Proofs.YtpddppipjlagfaaW.PrintWords Go.Proofs.YtpddppipjlagfaaW.PrintLast Go.Proofs.YtpddppipjlagfaaW.PrintMore Pr Go.Proofs.Ytpddppipjlagfaa.Pure

def deedAt (q : List Lv) (n0 n2 : Int) : Int := if 0 < q.length ∧ n0 % 8 ≠ 1 then (rd_T59 q (n2 % q.length)).f0 else n2 % 64 * 32
/-- A deed's kind, its address, its code as the model has it, and the list behind it. -/
def deedB (m : Int) (q : List Lv) (n0 N n2 : Int) : Int × Int × Int × List Lv :=
  if n0 % 2 = 1 then (2, deedAt q n0 n2, (freeR m q (deedAt q n0 n2)).2.2, if (freeR m q (deedAt q n0 n2)).2.2 = 0 then (freeR m q (deedAt q n0 n2)).2.1 else q)
  else (1, n2 % 64 * 32, if (allocR m q N (n2 % 64 * 32)).2.2 = true then 0 else if (clsR N).2 = true then 3 else 1, if (allocR m q N (n2 % 64 * 32)).2.2 = true then (allocR m q N (n2 % 64 * 32)).2.1 else q)
def deedR (m : Int) (q : List Lv) (n0 n1 n2 n3 : Int) : De × List Lv :=
  (⟨(deedB m q n0 (shl .i64 n1 (n3 % 5)) n2).1, shl .i64 n1 (n3 % 5), (deedB m q n0 (shl .i64 n1 (n3 % 5)) n2).2.1, if n0 ≥ 250 then n3 % 4 else (deedB m q n0 (shl .i64 n1 (n3 % 5)) n2).2.2.1⟩, (deedB m q n0 (shl .i64 n1 (n3 % 5)) n2).2.2.2)
/-- All deeds, from some on. -/
def deedsG (m : Int) : List Lv → List Int → Nat → List De
  | q, n0 :: n1 :: n2 :: n3 :: ns, c => if c < 100 then (deedR m q n0 n1 n2 n3).1 :: deedsG m (deedR m q n0 n1 n2 n3).2 ns (c + 1) else []
  | _, _, _ => []
theorem freeR_rt {m : Int} {q : List Lv} (h : rtL m q) (a : Int) : (freeR m q a).2.2 = 0 → (freeR m q a).1 = m ∧ rtL m (freeR m q a).2.1 ∧ (freeR m q a).2.1.length ≤ q.length := by
  intro hz
  unfold freeR at hz ⊢
  cases e : findL a q with
  | none => rw [e] at hz; cases hz
  | some x => exact ⟨rfl, delL_rt h, delL_len a q⟩
theorem rd_get (l : List Int) (i : Nat) (x : Int) (hx : x = (i : Int)) (h : i < l.length) : rd l x = l[i] := by
  subst hx
  simp [rd, List.getD_eq_getElem?_getD, List.getElem?_eq_getElem h]
theorem drop4 (l : List Int) (i : Nat) (i1 i2 i3 : Int) (h1 : i1 = i + 1) (h2 : i2 = i + 2) (h3 : i3 = i + 3) (h : i + 3 < l.length) : l.drop i = rd l (i : Int) :: rd l i1 :: rd l i2 :: rd l i3 :: l.drop (i + 4) := by
  rw [rd_get l i _ rfl (by omega), rd_get l (i + 1) i1 (by omega) (by omega), rd_get l (i + 2) i2 (by omega) (by omega), rd_get l (i + 3) i3 (by omega) (by omega)]
  rw [List.drop_eq_getElem_cons (show i < l.length by omega), List.drop_eq_getElem_cons (show i + 1 < l.length by omega), List.drop_eq_getElem_cons (show i + 1 + 1 < l.length by omega), List.drop_eq_getElem_cons (show i + 1 + 1 + 1 < l.length by omega)]
theorem deedsG_short (m : Int) (q : List Lv) (l : List Int) (c : Nat) (h : l.length < 4) : deedsG m q l c = [] := by
  match l, h with
  | [], _ => rfl
  | [_], _ => rfl
  | [_, _], _ => rfl
  | [_, _, _], _ => rfl
  | _ :: _ :: _ :: _ :: _, h => simp at h; omega
theorem deedsG_full (m : Int) (q : List Lv) (l : List Int) (c : Nat) (h : ¬ c < 100) : deedsG m q l c = [] := by
  match l with
  | [] => rfl
  | [_] => rfl
  | [_, _] => rfl
  | [_, _, _] => rfl
  | _ :: _ :: _ :: _ :: _ => rw [deedsG, if_neg h]
structure RD (w : World) (g : Nat) (m : Int) (A : Option Addr) (c : Nat) (q : List Lv) (v : Value) (acc : List De) (W : World) : Prop where
  b2 : W.heap[g]? = some (.cells #[.int .i64 m, .slice A q.length c] 43 (0, 0))
  gw : w.heap.size ≤ g
  bl : Below w.heap.size w W
  qc : q.length ≤ c
  row : Kd.F k59 W (fun k => (w.heap.size ≤ k ∧ k ≠ g) ∧ some k ≠ v.ownBlock) A q.length q
  acc : Kd.R k38 38 W w.heap.size (fun k => k ≠ g) v acc
structure RE (w : World) (g gd : Nat) (m : Int) (A : Option Addr) (c : Nat) (q : List Lv) (v : Value) (acc : List De) (x : De) (W : World) : Prop where
  b2 : W.heap[g]? = some (.cells #[.int .i64 m, .slice A q.length c] 43 (0, 0))
  bd : W.heap[gd]? = some (.cells #[.int .i64 x.f0, .int .i64 x.f1, .int .i64 x.f2, .int .i64 x.f3] 38 (0, 0))
  gw : w.heap.size ≤ g
  dw : w.heap.size ≤ gd
  gg : g ≠ gd
  bl : Below w.heap.size w W
  qc : q.length ≤ c
  row : Kd.F k59 W (fun k => (w.heap.size ≤ k ∧ k ≠ g ∧ k ≠ gd) ∧ some k ≠ v.ownBlock) A q.length q
  acc : Kd.R k38 38 W w.heap.size (fun k => k ≠ g ∧ k ≠ gd) v acc
section
variable {w : World} {g gd : Nat} {m : Int} {A : Option Addr} {c : Nat} {q : List Lv} {v : Value} {acc : List De} {x : De} {W W' : World}
theorem RD.deed (r : RD w g m A c q v acc W) (x : De) : RE w g W.heap.size m A c q v acc x (W.alloc (.cells #[.int .i64 x.f0, .int .i64 x.f1, .int .i64 x.f2, .int .i64 x.f3] 38)).drew := by
  have hg := blk_lt r.b2
  have hb := r.bl.size
  exact ⟨blk_drew (blk_alloc r.b2 _), blk_drew (blk_new W _), r.gw, hb, by omega, below_drew1 (below_alloc r.bl _), r.qc,
    Kd.F_drew (Kd.F_alloc (Kd.F_mono (Kd.F_bound r.row) (fun k hk => ⟨⟨hk.1.1.1, hk.1.1.2, by have := hk.2; omega⟩, hk.1.2⟩)) _),
    Kd.R_drew (Kd.R_alloc (Kd.R_mono (Kd.R_bound r.acc) (fun k hk => ⟨hk.1, by have := hk.2.2.1; omega⟩)) _)⟩
theorem RE.below (r : RE w g gd m A c q v acc x W) (hd : Below W.heap.size W W') : RE w g gd m A c q v acc x W' :=
  ⟨blk_below r.b2 hd, blk_below r.bd hd, r.gw, r.dw, r.gg, below_step r.bl hd, r.qc, Kd.F_below r.row hd, Kd.R_below r.acc hd⟩
theorem RE.put (r : RE w g gd m A c q v acc x W) (j : Nat) (u : Value) (y : De) (h : #[Value.int .i64 x.f0, .int .i64 x.f1, .int .i64 x.f2, .int .i64 x.f3].setIfInBounds j u = #[.int .i64 y.f0, .int .i64 y.f1, .int .i64 y.f2, .int .i64 y.f3]) : RE w g gd m A c q v acc y (W.setCell ⟨gd, j, none⟩ u) :=
  ⟨blk_far r.b2 (show g ≠ gd from r.gg) _, blk_put r.bd j u h, r.gw, r.dw, r.gg, below_set r.bl r.dw, r.qc, Kd.F_far (p := ⟨gd, j, none⟩) r.row (fun k hk => hk.1.2.2) _, Kd.R_far (p := ⟨gd, j, none⟩) r.acc (fun k hk => hk.2) _⟩
theorem RE.model (r : RE w g gd m A c q v acc x W) {A2 : Option Addr} {c2 : Nat} {q2 : List Lv} (hc : q2.length ≤ c2) (hr : Kd.F k59 W (fun k => (w.heap.size ≤ k ∧ k ≠ g ∧ k ≠ gd) ∧ some k ≠ v.ownBlock) A2 q2.length q2) :
    RE w g gd m A2 c2 q2 v acc x ((W.setCell ⟨g, 0, none⟩ (.int .i64 m)).setCell ⟨g, 1, none⟩ (.slice A2 q2.length c2)) := by
  refine ⟨?_, ?_, r.gw, r.dw, r.gg, ?_, hc, ?_, ?_⟩
  · exact blk_put (cs := #[.int .i64 m, .slice A q.length c]) (blk_put (cs := #[.int .i64 m, .slice A q.length c]) r.b2 0 _ rfl) 1 _ rfl
  · exact blk_far (blk_far r.bd (show gd ≠ g from fun e => r.gg e.symm) _) (show gd ≠ g from fun e => r.gg e.symm) _
  · exact below_set (below_set r.bl r.gw) r.gw
  · exact Kd.F_far (p := ⟨g, 1, none⟩) (Kd.F_far (p := ⟨g, 0, none⟩) hr (fun k hk => hk.1.2.1) _) (fun k hk => hk.1.2.1) _
  · exact Kd.R_far (p := ⟨g, 1, none⟩) (Kd.R_far (p := ⟨g, 0, none⟩) r.acc (fun k hk => hk.1) _) (fun k hk => hk.1) _
/-- What a callee has made, as a row beside ours. -/
theorem RE.made (r : RE w g gd m A c q v acc x W) {A2 : Option Addr} {c2 : Nat} {q2 : List Lv} (hr : Kd.R k59 59 W' W.heap.size (fun _ => True) (.slice A2 q2.length c2) q2) : q2.length ≤ c2 ∧ Kd.F k59 W' (fun k => (w.heap.size ≤ k ∧ k ≠ g ∧ k ≠ gd) ∧ some k ≠ v.ownBlock) A2 q2.length q2 := by
  have h1 := Kd.R_bound hr
  have hg := blk_lt r.b2
  have hd := blk_lt r.bd
  have hb := r.bl.size
  refine ⟨(Kd.R_reads' hr).2.1, fun W2 hW2 => (Kd.R_reads' (Kd.R_step (w1 := W2) h1 (fun k hk hlt => hW2 k ⟨⟨by have := hk.2.1; omega, by have := hk.2.1; omega, by have := hk.2.1; omega⟩, ?_⟩ hlt))).2.2⟩
  intro e
  have := Kd.R_lt r.acc k e.symm
  have := hk.2.1
  omega
theorem RE.c20 (r : RE w g gd m A c q v acc x W) : W.cell? ⟨g, 0, none⟩ = some (.int .i64 m) := (blk_cell r.b2 0).trans rfl
theorem RE.c21 (r : RE w g gd m A c q v acc x W) : W.cell? ⟨g, 1, none⟩ = some (.slice A q.length c) := (blk_cell r.b2 1).trans rfl
theorem RE.f20 (r : RE w g gd m A c q v acc x W) : W.frozen? ⟨g, 0, none⟩ = false := blk_frozen r.b2 0
theorem RE.f21 (r : RE w g gd m A c q v acc x W) : W.frozen? ⟨g, 1, none⟩ = false := blk_frozen r.b2 1
theorem RE.d0 (r : RE w g gd m A c q v acc x W) : W.cell? ⟨gd, 0, none⟩ = some (.int .i64 x.f0) := (blk_cell r.bd 0).trans rfl
theorem RE.d1 (r : RE w g gd m A c q v acc x W) : W.cell? ⟨gd, 1, none⟩ = some (.int .i64 x.f1) := (blk_cell r.bd 1).trans rfl
theorem RE.d2 (r : RE w g gd m A c q v acc x W) : W.cell? ⟨gd, 2, none⟩ = some (.int .i64 x.f2) := (blk_cell r.bd 2).trans rfl
theorem RE.d3 (r : RE w g gd m A c q v acc x W) : W.cell? ⟨gd, 3, none⟩ = some (.int .i64 x.f3) := (blk_cell r.bd 3).trans rfl
theorem RE.df (r : RE w g gd m A c q v acc x W) (j : Nat) : W.frozen? ⟨gd, j, none⟩ = false := blk_frozen r.bd j
end
set_option maxRecDepth 100000 in
set_option maxHeartbeats 8000000 in
theorem deeds_any (m : Int) (A : Option Addr) (c : Nat) (l : List Int) (w : World) (hm : mOk m) (hr : Kd.C (Kd.int .u8) w A l.length l) (hc : l.length ≤ c) (hu8 : ∀ x ∈ l, (Lit.int .u8 x).wf = true) (hmax : l.length ≤ 140737488351232) :
    Calls Try.prog 24 #[.int .i64 m, .slice A l.length c] w fun e w' => ∃ v, e = .returned v ∧ Kd.R k38 38 w' w.heap.size (fun _ => True) v (deedsG m [] l 0) ∧ Below w.heap.size w w' := by
  have hu := Try.underlying59
  have hu2 := Try.underlying43
  have hu3 := Try.underlying38
  have HR := Sh.mk hr
  have HM := Sh.mk hm
  have HU := Sh.mk hu8
  have HX : RD w w.heap.size m none 0 [] (.slice none 0 0) [] (w.alloc (.cells #[.int .i64 m, .slice none 0 0] 43)) :=
    ⟨blk_new _ _, Nat.le_refl _, below_alloc (Below.refl _ _) _, Nat.le_refl _, Kd.F_nil _ _ _, Kd.R_nil _ _ _ _ _⟩
  clear hr hm hu8
  go_enter Try.func24, Try.ntmps24
  go_wp2
  go_loopw [6, 7] (fun v6 vi wr => ∃ (i j : Nat) (q : List Lv) (Aq : Option Addr) (cq : Nat) (acc : List De), i ≤ l.length + 3 ∧ vi = .int .i64 (i : Int) ∧ Sh (i = 4 * j ∧ rtL m q ∧ q.length ≤ j ∧ acc.length = j ∧ j ≤ 100) ∧ Sh (deedsG m [] l 0 = acc ++ deedsG m q (l.drop i) j) ∧ RD w w.heap.size m Aq cq q v6 acc wr) (fun _ vi _ => l.length + 8 - (intOf vi).toNat)
  case atStart => exact ⟨0, 0, [], none, 0, [], by omega, rfl, ⟨rfl, trivial, Nat.le_refl _, rfl, by omega⟩, ⟨by simp⟩, HX⟩
  case round =>
    clear HX
    obtain ⟨i, j, q, Aq, cq, acc, hj, rfl, HQ, HV, HX⟩ := hrel
    obtain ⟨Ac, cc, eac⟩ := Kd.R_slice HX.acc
    subst eac
    have hal : acc.length ≤ 100 := by have := HQ.out; omega
    by_cases hlt : i + 3 < l.length
    · have b1 : decide ((i : Int) + 3 < (l.length : Int)) = true := decide_eq_true (by omega)
      by_cases h100 : acc.length < 100
      · have b2 : decide ((acc.length : Int) < 100) = true := decide_eq_true (by omega)
        have hC := Kd.C_below HR.out HX.bl
        obtain ⟨ad, rfl, hn0⟩ := Kd.at_int hC (i : Int) (by omega) (by omega)
        obtain ⟨i1, hi1⟩ : ∃ x, x = (i : Int) + 1 := ⟨_, rfl⟩
        obtain ⟨i2, hi2⟩ : ∃ x, x = (i : Int) + 2 := ⟨_, rfl⟩
        obtain ⟨i3, hi3⟩ : ∃ x, x = (i : Int) + 3 := ⟨_, rfl⟩
        have l1 : i1 < (l.length : Int) := by omega
        have l2 : i2 < (l.length : Int) := by omega
        have l3 : i3 < (l.length : Int) := by omega
        have g1 : 0 ≤ i1 := by omega
        have g2 : 0 ≤ i2 := by omega
        have g3 : 0 ≤ i3 := by omega
        obtain ⟨ad1, ea, hn1⟩ := Kd.at_int hC i1 g1 l1
        cases ea
        obtain ⟨ad2, ea, hn2⟩ := Kd.at_int hC i2 g2 l2
        cases ea
        obtain ⟨ad3, ea, hn3⟩ := Kd.at_int hC i3 g3 l3
        cases ea
        rw [Int.toNat_natCast] at hn0
        have hw0 := rd_u8 HU.out (i : Int)
        have hw1 := rd_u8 HU.out i1
        have hw2 := rd_u8 HU.out i2
        have hw3 := rd_u8 HU.out i3
        obtain ⟨n0, hq0⟩ : ∃ n, n = rd l (i : Int) := ⟨_, rfl⟩
        obtain ⟨n1, hq1⟩ : ∃ n, n = rd l i1 := ⟨_, rfl⟩
        obtain ⟨n2, hq2⟩ : ∃ n, n = rd l i2 := ⟨_, rfl⟩
        obtain ⟨n3, hq3⟩ : ∃ n, n = rd l i3 := ⟨_, rfl⟩
        rw [← hq0] at hn0 hw0
        rw [← hq1] at hn1 hw1
        rw [← hq2] at hn2 hw2
        rw [← hq3] at hn3 hw3
        have HW := Sh.mk (And.intro hq0 (And.intro hq1 (And.intro hq2 hq3)))
        have HI := Sh.mk (And.intro hi1 (And.intro hi2 hi3))
        have q1 : IntKind.i64.wrap ((i : Int) + 1) = i1 := by rw [hi1]; exact IntWalk.i64_in _ (by omega)
        have q2 : IntKind.i64.wrap ((i : Int) + 2) = i2 := by rw [hi2]; exact IntWalk.i64_in _ (by omega)
        have q3 : IntKind.i64.wrap ((i : Int) + 3) = i3 := by rw [hi3]; exact IntWalk.i64_in _ (by omega)
        have b1 : decide (i3 < (l.length : Int)) = true := decide_eq_true l3
        have HH := Sh.mk (And.intro hn1 (And.intro hn2 hn3))
        have w1 : IntKind.i64.wrap n1 = n1 := IntWalk.i64_in _ (by omega)
        have w2 : IntKind.i64.wrap n2 = n2 := IntWalk.i64_in _ (by omega)
        have w3 : IntKind.i64.wrap n3 = n3 := IntWalk.i64_in _ (by omega)
        obtain ⟨s, hs⟩ : ∃ x, x = n3 % 5 := ⟨_, rfl⟩
        obtain ⟨N, hN⟩ : ∃ x, x = shl .i64 n1 s := ⟨_, rfl⟩
        obtain ⟨u, hu0⟩ : ∃ x, x = n2 % 64 := ⟨_, rfl⟩
        obtain ⟨a0, ha0⟩ : ∃ x, x = u * 32 := ⟨_, rfl⟩
        have s1 : n3.tmod 5 = s := by rw [hs]; exact Int.tmod_eq_emod_of_nonneg (by omega)
        have s0 : 0 ≤ s := by omega
        have s4 : s ≤ 4 := by omega
        have hN2 : IntKind.i64.wrap (n1 * 2 ^ s.toNat) = N := by rw [hN]; exact shl_small rfl (by show s ≤ 64; omega)
        have u1 : n2.tmod 64 = u := by rw [hu0]; exact Int.tmod_eq_emod_of_nonneg (by omega)
        have a1 : IntKind.i64.wrap (u * 32) = a0 := by rw [ha0]; exact IntWalk.i64_in _ (by omega)
        have HS := Sh.mk (And.intro hs (And.intro hN (And.intro hu0 ha0)))
        clear hs hN hu0 ha0
        clear hq0 hq1 hq2 hq3 hC hi1 hi2 hi3
        have HE : ∀ W, Below wr.heap.size wr W → Sh (W.cell? (ad.add i) = some (.int .u8 n0) ∧ W.cell? (ad.add i1.toNat) = some (.int .u8 n1) ∧ W.cell? (ad.add i2.toNat) = some (.int .u8 n2) ∧ W.cell? (ad.add i3.toNat) = some (.int .u8 n3)) := fun W hW => ⟨(hW.cell (World.block_lt_of_cell? _ _ hn0)).trans hn0, (hW.cell (World.block_lt_of_cell? _ _ hn1)).trans hn1, (hW.cell (World.block_lt_of_cell? _ _ hn2)).trans hn2, (hW.cell (World.block_lt_of_cell? _ _ hn3)).trans hn3⟩
        go_upto_region 6 with (fail)
        go_region_held3 (fun W => W.cell? (ad.add i1.toNat) = some (.int .u8 n1) ∧ W.cell? (ad.add i2.toNat) = some (.int .u8 n2) ∧ W.cell? (ad.add i3.toNat) = some (.int .u8 n3)) (first | exact HH.out | exact (HE _ (by repeat (first | exact Below.refl _ _ | apply below_drew1 | refine below_set ?_ (Nat.le_refl _) | apply below_alloc))).out.2) (fail)
        have HX1 := HX.deed ⟨1, N, a0, 0⟩
        have HE1 := HE (wr.alloc (.cells #[.int .i64 1, .int .i64 N, .int .i64 a0, .int .i64 0] 38)).drew (below_drew1 (below_alloc (Below.refl _ _) _))
        have HL1 : Sh (Below wr.heap.size wr (wr.alloc (.cells #[.int .i64 1, .int .i64 N, .int .i64 a0, .int .i64 0] 38)).drew) := ⟨below_drew1 (below_alloc (Below.refl _ _) _)⟩
        generalize (wr.alloc (.cells #[.int .i64 1, .int .i64 N, .int .i64 a0, .int .i64 0] 38)).drew = W1 at HX1 HE1 HL1 ⊢
        have hn0 := HE1.out.1
        go_upto_if 57 with (fail)
        clear hn0
        go_cut [10] (fun _ wc => ∃ (A' : Option Addr) (c' : Nat), RE w w.heap.size wr.heap.size m A' c' (deedB m q n0 N n2).2.2.2 (.slice Ac acc.length cc) acc ⟨(deedB m q n0 N n2).1, N, (deedB m q n0 N n2).2.1, (deedB m q n0 N n2).2.2.1⟩ wc ∧ Sh (rtL m (deedB m q n0 N n2).2.2.2 ∧ (deedB m q n0 N n2).2.2.2.length ≤ j + 1))
        case first =>
          have hn0 := HE1.out.1
          have hn1 := HE1.out.2.1
          have hn2 := HE1.out.2.2.1
          have d0 := HX1.d0
          have d1 := HX1.d1
          have d2 := HX1.d2
          have d3 := HX1.d3
          have m0 := HX1.c20
          have m1 := HX1.c21
          by_cases hodd : n0 % 2 = 1
          · have o1 : (n0 % 2 == 1) = true := by simpa using hodd
            have o2 : n0.tmod 2 = n0 % 2 := Int.tmod_eq_emod_of_nonneg (by omega)
            have o3 : (n0.tmod 2 == 1) = true := by rw [o2]; exact o1
            have e8 : n0.tmod 8 = n0 % 8 := Int.tmod_eq_emod_of_nonneg (by omega)
            have f0 := HX1.df 0
            have HXa := HX1.put 0 (.int .i64 2) ⟨2, N, a0, 0⟩ rfl
            have HEa : Sh ((W1.setCell ⟨wr.heap.size, 0, none⟩ (.int .i64 2)).cell? (ad.add i) = some (.int .u8 n0) ∧ (W1.setCell ⟨wr.heap.size, 0, none⟩ (.int .i64 2)).cell? (ad.add i1.toNat) = some (.int .u8 n1) ∧ (W1.setCell ⟨wr.heap.size, 0, none⟩ (.int .i64 2)).cell? (ad.add i2.toNat) = some (.int .u8 n2) ∧ (W1.setCell ⟨wr.heap.size, 0, none⟩ (.int .i64 2)).cell? (ad.add i3.toNat) = some (.int .u8 n3)) := HE _ (below_set HL1.out (Nat.le_refl _))
            by_cases hcase : 0 < q.length ∧ n0 % 8 ≠ 1
            · obtain ⟨at_, hat⟩ : ∃ x, x = deedAt q n0 n2 := ⟨_, rfl⟩
              obtain ⟨rr, hrr⟩ : ∃ x, x = n2 % (q.length : Int) := ⟨_, rfl⟩
              have hr1 : n2.tmod (q.length : Int) = rr := by rw [hrr]; exact Int.tmod_eq_emod_of_nonneg (by omega)
              have hr0 : 0 ≤ rr := by rw [hrr]; exact Int.emod_nonneg _ (by omega)
              have hr2 : rr < (q.length : Int) := by rw [hrr]; exact Int.emod_lt_of_pos _ (by omega)
              obtain ⟨aq, ea, hy0, hy1, hy2⟩ := at_T59 (Kd.F_now HXa.row) rr hr0 hr2
              have hxa : (rd_T59 q rr).f0 = at_ := by rw [hat, hrr]; unfold deedAt; rw [if_pos hcase]
              rw [hxa] at hy0
              subst ea
              have b1 : decide (0 < (q.length : Int)) = true := decide_eq_true (by omega)
              have b2 : (n0 % 8 != 1) = true := by simpa using hcase.2
              have b3 : (n0.tmod 8 != 1) = true := by rw [e8]; exact b2
              have b4 : ¬ ((q.length : Int) = 0) := by omega
              have b5 : ¬ q.length = 0 := by omega
              have b6 : ((q.length : Int) == 0) = false := by simpa using b5
              have b7 : ¬ q = [] := by rintro rfl; exact b5 rfl
              obtain ⟨z1, z2, z3, hz⟩ : ∃ x y z, freeR m q at_ = (x, y, z) := ⟨_, _, _, rfl⟩
              have HB : Sh (deedB m q n0 N n2 = (2, at_, z3, if z3 = 0 then z2 else q)) := ⟨by
                unfold deedB
                rw [if_pos hodd, ← hat, hz]⟩
              have HZ := Sh.mk hz
              clear hz
              have hq := hcase.1
              clear hat hrr o2 e8 hodd hcase hn1 d1 d2 d3 m0 m1 hy1 hy2
              have HXb := HXa.put 2 (.int .i64 at_) ⟨2, N, at_, 0⟩ rfl
              have hn0 := HEa.out.1
              have hn2 := HEa.out.2.2.1
              have HS3 := Sh.mk (And.intro HXa.c21 (And.intro hn2 hy0))
              have HS4 : Sh ((W1.setCell ⟨wr.heap.size, 0, none⟩ (.int .i64 2)).frozen? ⟨wr.heap.size, 2, none⟩ = false ∧ (W1.setCell ⟨wr.heap.size, 0, none⟩ (.int .i64 2)).cell? ⟨wr.heap.size, 2, none⟩ = some (.int .i64 a0)) := ⟨HXa.df 2, HXa.d2⟩
              have m1 := HXa.c21
              obtain ⟨aq', ea', hy0', _, _⟩ := at_T59 (Kd.F_now HXb.row) rr hr0 hr2
              cases ea'
              have HS5 := Sh.mk (And.intro HXb.c21 (And.intro (HE _ (below_set (v := .int .i64 at_) (j := 2) (below_set (v := .int .i64 2) (j := 0) HL1.out (Nat.le_refl _)) (Nat.le_refl _))).out.2.2.1 hy0'))
              rw [hxa] at HS5
              clear hxa hy0'
              have q4f := HS4.out.1
              have q4g := HS4.out.2
              go_upto_region 10 with (fail)
              go_region_held3 (fun W => W.cell? ⟨w.heap.size, 1, none⟩ = some (.slice (some aq) q.length cq) ∧ W.cell? (ad.add i2.toNat) = some (.int .u8 n2) ∧ W.cell? (aq.add (rr.toNat * 3)) = some (.int .i64 at_)) (first | exact HS3.out | exact HS5.out) (fail)
              have HX2 := HXb.below (Below.refl _ _).drew
              clear q4f q4g m1
              have d2 := HX2.d2
              have m0 := HX2.c20
              have m1 := HX2.c21
              have HA := Sh.mk (by obtain ⟨k, hk⟩ := (rfree_ev HQ.out.2.1 (by have := HQ.out; omega) at_).rounds; exact rickyardref13_Free.calls k m _ cq q at_ z1 z2 z3 ((W1.setCell ⟨wr.heap.size, 0, none⟩ (.int .i64 2)).setCell ⟨wr.heap.size, 2, none⟩ (.int .i64 at_)).drew (Kd.F_now HX2.row) HX2.qc (by rw [hk, HZ.out]))
              go_wp2_with fail
              (with_reducible refine HA.out.mono ?_); rintro e w2 ⟨v1, rfl, hv, hd⟩
              obtain ⟨A2, c2, e2⟩ := Kd.R_slice hv
              subst e2
              have HX3 := (HX2.below hd).below (below_alloc (Below.refl _ _) (.cells #[.int .i64 z1, .slice A2 z2.length c2] 43))
              have HN3 : Sh ((w2.alloc (.cells #[.int .i64 z1, .slice A2 z2.length c2] 43)).heap[w2.heap.size]? = some (.cells #[.int .i64 z1, .slice A2 z2.length c2] 43 (0, 0))) := ⟨blk_new w2 _⟩
              have HMD := Sh.mk (HX2.made hv)
              have HMF : Sh (Kd.F k59 (w2.alloc (.cells #[.int .i64 z1, .slice A2 z2.length c2] 43)) (fun k => (w.heap.size ≤ k ∧ k ≠ w.heap.size ∧ k ≠ wr.heap.size) ∧ some k ≠ (Value.slice Ac acc.length cc).ownBlock) A2 z2.length z2) := ⟨Kd.F_alloc HMD.out.2 _⟩
              have hgn : wr.heap.size ≠ w2.heap.size := by
                have h1 := blk_lt (HX2.below hd).bd
                omega
              have hgg : w.heap.size ≠ w2.heap.size := by
                have h1 := blk_lt (HX2.below hd).b2
                omega
              clear hv hd d2 m0 m1 d0 f0 hn0
              have HX4 := HX3.put 3 (.int .i64 z3) ⟨2, N, at_, z3⟩ rfl
              have HN4 : Sh (((w2.alloc (.cells #[.int .i64 z1, .slice A2 z2.length c2] 43)).setCell ⟨wr.heap.size, 3, none⟩ (.int .i64 z3)).heap[w2.heap.size]? = some (.cells #[.int .i64 z1, .slice A2 z2.length c2] 43 (0, 0))) := ⟨blk_far HN3.out (show w2.heap.size ≠ wr.heap.size from fun e => hgn e.symm) _⟩
              have HM4 : Sh (Kd.F k59 ((w2.alloc (.cells #[.int .i64 z1, .slice A2 z2.length c2] 43)).setCell ⟨wr.heap.size, 3, none⟩ (.int .i64 z3)) (fun k => (w.heap.size ≤ k ∧ k ≠ w.heap.size ∧ k ≠ wr.heap.size) ∧ some k ≠ (Value.slice Ac acc.length cc).ownBlock) A2 z2.length z2) := ⟨Kd.F_far (p := ⟨wr.heap.size, 3, none⟩) HMF.out (fun k hk => hk.1.2.2) _⟩
              have d3 := HX3.d3
              have f3 := HX3.df 3
              go_upto_if 97 with (fail)
              clear d3 f3
              generalize (w2.alloc (.cells #[.int .i64 z1, .slice A2 z2.length c2] 43)).setCell ⟨wr.heap.size, 3, none⟩ (.int .i64 z3) = w4 at HX4 HN4 HM4 ⊢
              generalize w2.heap.size = g9 at HN4 ⊢
              have m0 := HX4.c20
              have m1 := HX4.c21
              have mf := HX4.f20
              have mg := HX4.f21
              have p0 : w4.cell? ⟨g9, 0, none⟩ = some (.int .i64 z1) := (blk_cell HN4.out 0).trans rfl
              have p1 : w4.cell? ⟨g9, 1, none⟩ = some (.slice A2 z2.length c2) := (blk_cell HN4.out 1).trans rfl
              by_cases hz0 : z3 = 0
              · have hok := freeR_rt HQ.out.2.1 at_ (by rw [HZ.out]; exact hz0)
                rw [HZ.out] at hok
                obtain ⟨k1, k2, k3⟩ := hok
                dsimp only at k1 k2 k3
                subst k1
                have HRT : Sh (rtL z1 z2 ∧ z2.length ≤ j + 1) := ⟨k2, by have := HQ.out; omega⟩
                have HB2 : Sh (deedB z1 q n0 N n2 = (2, at_, z3, z2)) := ⟨by rw [HB.out, if_pos hz0]⟩
                have bz : (z3 == 0) = true := by simpa using hz0
                clear k2 k3 hz0
                go_wp2
                go_meet
                rw [HB2.out]
                exact ⟨A2, c2, HX4.model HMD.out.1 HM4.out, HRT⟩
              · have HRT : Sh (rtL m q ∧ q.length ≤ j + 1) := ⟨HQ.out.2.1, by have := HQ.out; omega⟩
                have HB2 : Sh (deedB m q n0 N n2 = (2, at_, z3, q)) := ⟨by rw [HB.out, if_neg hz0]⟩
                have bz : (z3 == 0) = false := by simpa using hz0
                clear hz0
                go_wp2
                go_meet
                rw [HB2.out]
                exact ⟨_, _, HX4, HRT⟩
            · obtain ⟨at_, hat⟩ : ∃ x, x = deedAt q n0 n2 := ⟨_, rfl⟩
              have hat0 : at_ = a0 := by rw [hat, HS.out.2.2.2, HS.out.2.2.1]; unfold deedAt; rw [if_neg hcase]
              obtain ⟨z1, z2, z3, hz⟩ : ∃ x y z, freeR m q at_ = (x, y, z) := ⟨_, _, _, rfl⟩
              have HB : Sh (deedB m q n0 N n2 = (2, at_, z3, if z3 = 0 then z2 else q)) := ⟨by
                unfold deedB
                rw [if_pos hodd, ← hat, hz]⟩
              have HZ := Sh.mk hz
              clear hz
              subst hat0
              clear hat
              have m1 := HXa.c21
              have hn0 := HEa.out.1
              have HX2 := HXa
              by_cases hq : 0 < q.length
              · have b1 : decide (0 < (q.length : Int)) = true := decide_eq_true (by omega)
                have h8 : n0 % 8 = 1 := by omega
                have b2 : (n0 % 8 != 1) = false := by simp [h8]
                have b3 : (n0.tmod 8 != 1) = false := by rw [e8]; exact b2
                clear o2 e8 hodd hcase hn1 d1 d2 d3 m0 h8
                have m0 := HXa.c20
                have d2 := HX2.d2
                have m0 := HX2.c20
                have m1 := HX2.c21
                have HA := Sh.mk (by obtain ⟨k, hk⟩ := (rfree_ev HQ.out.2.1 (by have := HQ.out; omega) at_).rounds; exact rickyardref13_Free.calls k m _ cq q at_ z1 z2 z3 (W1.setCell ⟨wr.heap.size, 0, none⟩ (.int .i64 2)) (Kd.F_now HX2.row) HX2.qc (by rw [hk, HZ.out]))
                go_wp2_with fail
                (with_reducible refine HA.out.mono ?_); rintro e w2 ⟨v1, rfl, hv, hd⟩
                obtain ⟨A2, c2, e2⟩ := Kd.R_slice hv
                subst e2
                have HX3 := (HX2.below hd).below (below_alloc (Below.refl _ _) (.cells #[.int .i64 z1, .slice A2 z2.length c2] 43))
                have HN3 : Sh ((w2.alloc (.cells #[.int .i64 z1, .slice A2 z2.length c2] 43)).heap[w2.heap.size]? = some (.cells #[.int .i64 z1, .slice A2 z2.length c2] 43 (0, 0))) := ⟨blk_new w2 _⟩
                have HMD := Sh.mk (HX2.made hv)
                have HMF : Sh (Kd.F k59 (w2.alloc (.cells #[.int .i64 z1, .slice A2 z2.length c2] 43)) (fun k => (w.heap.size ≤ k ∧ k ≠ w.heap.size ∧ k ≠ wr.heap.size) ∧ some k ≠ (Value.slice Ac acc.length cc).ownBlock) A2 z2.length z2) := ⟨Kd.F_alloc HMD.out.2 _⟩
                have hgn : wr.heap.size ≠ w2.heap.size := by
                  have h1 := blk_lt (HX2.below hd).bd
                  omega
                have hgg : w.heap.size ≠ w2.heap.size := by
                  have h1 := blk_lt (HX2.below hd).b2
                  omega
                clear hv hd d2 m0 m1 d0 f0 hn0
                have HX4 := HX3.put 3 (.int .i64 z3) ⟨2, N, at_, z3⟩ rfl
                have HN4 : Sh (((w2.alloc (.cells #[.int .i64 z1, .slice A2 z2.length c2] 43)).setCell ⟨wr.heap.size, 3, none⟩ (.int .i64 z3)).heap[w2.heap.size]? = some (.cells #[.int .i64 z1, .slice A2 z2.length c2] 43 (0, 0))) := ⟨blk_far HN3.out (show w2.heap.size ≠ wr.heap.size from fun e => hgn e.symm) _⟩
                have HM4 : Sh (Kd.F k59 ((w2.alloc (.cells #[.int .i64 z1, .slice A2 z2.length c2] 43)).setCell ⟨wr.heap.size, 3, none⟩ (.int .i64 z3)) (fun k => (w.heap.size ≤ k ∧ k ≠ w.heap.size ∧ k ≠ wr.heap.size) ∧ some k ≠ (Value.slice Ac acc.length cc).ownBlock) A2 z2.length z2) := ⟨Kd.F_far (p := ⟨wr.heap.size, 3, none⟩) HMF.out (fun k hk => hk.1.2.2) _⟩
                have d3 := HX3.d3
                have f3 := HX3.df 3
                go_upto_if 97 with (fail)
                clear d3 f3
                generalize (w2.alloc (.cells #[.int .i64 z1, .slice A2 z2.length c2] 43)).setCell ⟨wr.heap.size, 3, none⟩ (.int .i64 z3) = w4 at HX4 HN4 HM4 ⊢
                generalize w2.heap.size = g9 at HN4 ⊢
                have m0 := HX4.c20
                have m1 := HX4.c21
                have mf := HX4.f20
                have mg := HX4.f21
                have p0 : w4.cell? ⟨g9, 0, none⟩ = some (.int .i64 z1) := (blk_cell HN4.out 0).trans rfl
                have p1 : w4.cell? ⟨g9, 1, none⟩ = some (.slice A2 z2.length c2) := (blk_cell HN4.out 1).trans rfl
                by_cases hz0 : z3 = 0
                · have hok := freeR_rt HQ.out.2.1 at_ (by rw [HZ.out]; exact hz0)
                  rw [HZ.out] at hok
                  obtain ⟨k1, k2, k3⟩ := hok
                  dsimp only at k1 k2 k3
                  subst k1
                  have HRT : Sh (rtL z1 z2 ∧ z2.length ≤ j + 1) := ⟨k2, by have := HQ.out; omega⟩
                  have HB2 : Sh (deedB z1 q n0 N n2 = (2, at_, z3, z2)) := ⟨by rw [HB.out, if_pos hz0]⟩
                  have bz : (z3 == 0) = true := by simpa using hz0
                  clear k2 k3 hz0
                  go_wp2
                  go_meet
                  rw [HB2.out]
                  exact ⟨A2, c2, HX4.model HMD.out.1 HM4.out, HRT⟩
                · have HRT : Sh (rtL m q ∧ q.length ≤ j + 1) := ⟨HQ.out.2.1, by have := HQ.out; omega⟩
                  have HB2 : Sh (deedB m q n0 N n2 = (2, at_, z3, q)) := ⟨by rw [HB.out, if_neg hz0]⟩
                  have bz : (z3 == 0) = false := by simpa using hz0
                  clear hz0
                  go_wp2
                  go_meet
                  rw [HB2.out]
                  exact ⟨_, _, HX4, HRT⟩
              · have b1 : decide (0 < (q.length : Int)) = false := decide_eq_false (by omega)
                clear o2 e8 hodd hcase hn1 d1 d2 d3 m0
                have m0 := HXa.c20
                have d2 := HX2.d2
                have m0 := HX2.c20
                have m1 := HX2.c21
                have HA := Sh.mk (by obtain ⟨k, hk⟩ := (rfree_ev HQ.out.2.1 (by have := HQ.out; omega) at_).rounds; exact rickyardref13_Free.calls k m _ cq q at_ z1 z2 z3 (W1.setCell ⟨wr.heap.size, 0, none⟩ (.int .i64 2)) (Kd.F_now HX2.row) HX2.qc (by rw [hk, HZ.out]))
                go_wp2_with fail
                (with_reducible refine HA.out.mono ?_); rintro e w2 ⟨v1, rfl, hv, hd⟩
                obtain ⟨A2, c2, e2⟩ := Kd.R_slice hv
                subst e2
                have HX3 := (HX2.below hd).below (below_alloc (Below.refl _ _) (.cells #[.int .i64 z1, .slice A2 z2.length c2] 43))
                have HN3 : Sh ((w2.alloc (.cells #[.int .i64 z1, .slice A2 z2.length c2] 43)).heap[w2.heap.size]? = some (.cells #[.int .i64 z1, .slice A2 z2.length c2] 43 (0, 0))) := ⟨blk_new w2 _⟩
                have HMD := Sh.mk (HX2.made hv)
                have HMF : Sh (Kd.F k59 (w2.alloc (.cells #[.int .i64 z1, .slice A2 z2.length c2] 43)) (fun k => (w.heap.size ≤ k ∧ k ≠ w.heap.size ∧ k ≠ wr.heap.size) ∧ some k ≠ (Value.slice Ac acc.length cc).ownBlock) A2 z2.length z2) := ⟨Kd.F_alloc HMD.out.2 _⟩
                have hgn : wr.heap.size ≠ w2.heap.size := by
                  have h1 := blk_lt (HX2.below hd).bd
                  omega
                have hgg : w.heap.size ≠ w2.heap.size := by
                  have h1 := blk_lt (HX2.below hd).b2
                  omega
                clear hv hd d2 m0 m1 d0 f0 hn0
                have HX4 := HX3.put 3 (.int .i64 z3) ⟨2, N, at_, z3⟩ rfl
                have HN4 : Sh (((w2.alloc (.cells #[.int .i64 z1, .slice A2 z2.length c2] 43)).setCell ⟨wr.heap.size, 3, none⟩ (.int .i64 z3)).heap[w2.heap.size]? = some (.cells #[.int .i64 z1, .slice A2 z2.length c2] 43 (0, 0))) := ⟨blk_far HN3.out (show w2.heap.size ≠ wr.heap.size from fun e => hgn e.symm) _⟩
                have HM4 : Sh (Kd.F k59 ((w2.alloc (.cells #[.int .i64 z1, .slice A2 z2.length c2] 43)).setCell ⟨wr.heap.size, 3, none⟩ (.int .i64 z3)) (fun k => (w.heap.size ≤ k ∧ k ≠ w.heap.size ∧ k ≠ wr.heap.size) ∧ some k ≠ (Value.slice Ac acc.length cc).ownBlock) A2 z2.length z2) := ⟨Kd.F_far (p := ⟨wr.heap.size, 3, none⟩) HMF.out (fun k hk => hk.1.2.2) _⟩
                have d3 := HX3.d3
                have f3 := HX3.df 3
                go_upto_if 97 with (fail)
                clear d3 f3
                generalize (w2.alloc (.cells #[.int .i64 z1, .slice A2 z2.length c2] 43)).setCell ⟨wr.heap.size, 3, none⟩ (.int .i64 z3) = w4 at HX4 HN4 HM4 ⊢
                generalize w2.heap.size = g9 at HN4 ⊢
                have m0 := HX4.c20
                have m1 := HX4.c21
                have mf := HX4.f20
                have mg := HX4.f21
                have p0 : w4.cell? ⟨g9, 0, none⟩ = some (.int .i64 z1) := (blk_cell HN4.out 0).trans rfl
                have p1 : w4.cell? ⟨g9, 1, none⟩ = some (.slice A2 z2.length c2) := (blk_cell HN4.out 1).trans rfl
                by_cases hz0 : z3 = 0
                · have hok := freeR_rt HQ.out.2.1 at_ (by rw [HZ.out]; exact hz0)
                  rw [HZ.out] at hok
                  obtain ⟨k1, k2, k3⟩ := hok
                  dsimp only at k1 k2 k3
                  subst k1
                  have HRT : Sh (rtL z1 z2 ∧ z2.length ≤ j + 1) := ⟨k2, by have := HQ.out; omega⟩
                  have HB2 : Sh (deedB z1 q n0 N n2 = (2, at_, z3, z2)) := ⟨by rw [HB.out, if_pos hz0]⟩
                  have bz : (z3 == 0) = true := by simpa using hz0
                  clear k2 k3 hz0
                  go_wp2
                  go_meet
                  rw [HB2.out]
                  exact ⟨A2, c2, HX4.model HMD.out.1 HM4.out, HRT⟩
                · have HRT : Sh (rtL m q ∧ q.length ≤ j + 1) := ⟨HQ.out.2.1, by have := HQ.out; omega⟩
                  have HB2 : Sh (deedB m q n0 N n2 = (2, at_, z3, q)) := ⟨by rw [HB.out, if_neg hz0]⟩
                  have bz : (z3 == 0) = false := by simpa using hz0
                  clear hz0
                  go_wp2
                  go_meet
                  rw [HB2.out]
                  exact ⟨_, _, HX4, HRT⟩
          · have o1 : (n0 % 2 == 1) = false := by simpa using hodd
            have o2 : n0.tmod 2 = n0 % 2 := Int.tmod_eq_emod_of_nonneg (by omega)
            have o3 : (n0.tmod 2 == 1) = false := by rw [o2]; exact o1
            obtain ⟨z1, z2, z3, hz⟩ : ∃ x y z, allocR m q N a0 = (x, y, z) := ⟨_, _, _, rfl⟩
            obtain ⟨cl, has, hcl⟩ : ∃ x y, clsR N = (x, y) := ⟨_, _, rfl⟩
            have HB : Sh (deedB m q n0 N n2 = (1, a0, if z3 = true then 0 else if has = true then 3 else 1, if z3 = true then z2 else q)) := ⟨by
              have e : n2 % 64 * 32 = a0 := by rw [HS.out.2.2.2, HS.out.2.2.1]
              unfold deedB
              rw [if_neg hodd, e, hz, hcl]⟩
            have HZ := Sh.mk hz
            have HA := Sh.mk (rickyardref13_Alloc.calls m Aq cq q N a0 z1 z2 z3 W1 (Kd.F_now HX1.row) HX1.qc (by unfold rickyardref13_Alloc.f; rw [if_pos (by have := HQ.out; omega), ralloc_is HM.out HQ.out.2.1, hz]))
            have HK : ∀ W, Sh (Calls Try.prog 40 #[.int .i64 N] W fun e w' => e = .returned (.tuple #[.int .i64 cl, .bool has]) ∧ ∃ q, w' = W.drewN q) := fun W => ⟨by have h := class_q N W; rw [hcl] at h; exact h⟩
            clear hz hcl o2 hodd
            go_wp2_with fail
            (with_reducible refine HA.out.mono ?_); rintro e w2 ⟨v1, rfl, hv, hd⟩
            obtain ⟨A2, c2, e2⟩ := Kd.R_slice hv
            subst e2
            have HMD := Sh.mk (HX1.made hv)
            have HX3 := (HX1.below hd).below (below_alloc (Below.refl _ _) (.cells #[.int .i64 z1, .slice A2 z2.length c2] 43))
            have HN3 : Sh ((w2.alloc (.cells #[.int .i64 z1, .slice A2 z2.length c2] 43)).heap[w2.heap.size]? = some (.cells #[.int .i64 z1, .slice A2 z2.length c2] 43 (0, 0))) := ⟨blk_new w2 _⟩
            have HMD := Sh.mk (HX1.made hv)
            have HMF : Sh (Kd.F k59 (w2.alloc (.cells #[.int .i64 z1, .slice A2 z2.length c2] 43)) (fun k => (w.heap.size ≤ k ∧ k ≠ w.heap.size ∧ k ≠ wr.heap.size) ∧ some k ≠ (Value.slice Ac acc.length cc).ownBlock) A2 z2.length z2) := ⟨Kd.F_alloc HMD.out.2 _⟩
            clear hv hd d0 d1 d2 d3 m0 m1 hn0 hn1
            have d0 := HX3.d0
            have d1 := HX3.d1
            have d2 := HX3.d2
            have d3 := HX3.d3
            go_wp2_with fail
            (with_reducible refine (HK _).out.mono ?_); rintro e w3 ⟨rfl, hd⟩
            have HX4 : RE w w.heap.size wr.heap.size m Aq cq q (.slice Ac acc.length cc) acc ⟨1, N, a0, 0⟩ w3 := HX3.below (by obtain ⟨q, rfl⟩ := hd; exact pw_below_drewN (Below.refl _ _) _)
            have HN4 : Sh (w3.heap[w2.heap.size]? = some (.cells #[.int .i64 z1, .slice A2 z2.length c2] 43 (0, 0))) := ⟨by obtain ⟨q, rfl⟩ := hd; exact HN3.out⟩
            have HM4 : Sh (Kd.F k59 w3 (fun k => (w.heap.size ≤ k ∧ k ≠ w.heap.size ∧ k ≠ wr.heap.size) ∧ some k ≠ (Value.slice Ac acc.length cc).ownBlock) A2 z2.length z2) := ⟨by obtain ⟨q, rfl⟩ := hd; exact HMF.out⟩
            clear hd d0 d1 d2 d3
            have d3 := HX4.d3
            have f3 := HX4.df 3
            have m0 := HX4.c20
            have m1 := HX4.c21
            have mf := HX4.f20
            have mg := HX4.f21
            have p0 : w3.cell? ⟨w2.heap.size, 0, none⟩ = some (.int .i64 z1) := (blk_cell HN4.out 0).trans rfl
            have p1 : w3.cell? ⟨w2.heap.size, 1, none⟩ = some (.slice A2 z2.length c2) := (blk_cell HN4.out 1).trans rfl
            cases z3 with
            | true =>
              have hok := allocR_rt HM.out HQ.out.2.1 N a0 (by rw [HZ.out])
              rw [HZ.out] at hok
              obtain ⟨k1, k2, k3⟩ := hok
              dsimp only at k1 k2 k3
              subst k1
              have HRT : Sh (rtL z1 z2 ∧ z2.length ≤ j + 1) := ⟨k2, by have := HQ.out; omega⟩
              clear k2 k3
              go_wp2
              go_meet
              rw [HB.out]
              exact ⟨A2, c2, HX4.model HMD.out.1 HM4.out, HRT⟩
            | false =>
              have HRT : Sh (rtL m q ∧ q.length ≤ j + 1) := ⟨HQ.out.2.1, by have := HQ.out; omega⟩
              cases has with
              | true =>
                go_wp2
                go_meet
                rw [HB.out]
                exact ⟨Aq, cq, HX4.put 3 (.int .i64 3) ⟨1, N, a0, 3⟩ rfl, HRT⟩
              | false =>
                go_wp2
                go_meet
                rw [HB.out]
                exact ⟨Aq, cq, HX4.put 3 (.int .i64 1) ⟨1, N, a0, 1⟩ rfl, HRT⟩
        case rest =>
          obtain ⟨A', c', HY, HRT⟩ := hcut
          clear HX HX1 HE HE1 HL1 hn1 hn2 hn3 hn0 HH
          have hC := Kd.C_below HR.out HY.bl
          obtain ⟨ad1, ea, hn0⟩ := Kd.at_int hC (i : Int) (by omega) (by omega)
          cases ea
          obtain ⟨ad3, ea, hn3⟩ := Kd.at_int hC i3 g3 l3
          cases ea
          rw [Int.toNat_natCast] at hn0
          rw [← HW.out.1] at hn0
          rw [← HW.out.2.2.2] at hn3
          have f3 := HY.df 3
          have d0 := HY.d0
          have d1 := HY.d1
          have d2 := HY.d2
          have d3 := HY.d3
          obtain ⟨y, hy⟩ : ∃ y, y = deedB m q n0 N n2 := ⟨_, rfl⟩
          rw [← hy] at HY HRT d0 d1 d2 d3
          have HDR : Sh (deedR m q n0 n1 n2 n3 = (⟨y.1, N, y.2.1, if n0 ≥ 250 then n3 % 4 else y.2.2.1⟩, y.2.2.2)) := ⟨by
            unfold deedR
            rw [← HS.out.1, ← HS.out.2.1, ← hy]⟩
          clear hy hC
          by_cases h250 : n0 ≥ 250
          · have c1 : decide (250 ≤ n0) = true := decide_eq_true h250
            obtain ⟨f, hf⟩ : ∃ x, x = n3 % 4 := ⟨_, rfl⟩
            have hf1 : n3.tmod 4 = f := by rw [hf]; exact Int.tmod_eq_emod_of_nonneg (by omega)
            have hf2 : n3 % 4 = f := hf.symm
            clear hf
            have HY2 := HY.put 3 (.int .i64 f) ⟨y.1, N, y.2.1, f⟩ rfl
            have HV2 : Sh (deedsG m [] l 0 = (acc ++ [(⟨y.1, N, y.2.1, f⟩ : De)]) ++ deedsG m y.2.2.2 (l.drop (i + 4)) (j + 1)) := ⟨by
              rw [HV.out, drop4 l i i1 i2 i3 HI.out.1 HI.out.2.1 HI.out.2.2 hlt, ← HW.out.1, ← HW.out.2.1, ← HW.out.2.2.1, ← HW.out.2.2.2, deedsG, if_pos (by have := HQ.out.2.2.2.1; omega), HDR.out, if_pos h250, hf2]
              simp⟩
            clear hf2
            go_upto_region 24 with (fail)
            generalize (wc.setCell ⟨wr.heap.size, 3, none⟩ (.int .i64 f)) = w5 at HY2 ⊢
            clear d0 d1 d2 d3
            have d0 := HY2.d0
            have d1 := HY2.d1
            have d2 := HY2.d2
            have d3 := HY2.d3
            have HF2 : Sh (∀ k, w5.heap.size ≤ k → k ≠ w.heap.size ∧ k ≠ wr.heap.size) := ⟨fun k hk => by
              have h1 := blk_lt HY2.b2
              have h2 := blk_lt HY2.bd
              omega⟩
            go_wp2_with (first | ((with_reducible refine gate_builtin (b := .append) (xs := #[.tmp 134, .tmp 136]) rfl ?_); at_builtin; refine Kd.R_append k38 (w0 := w) w.heap.size rfl (.tmp 134) (.tmp 136) 35 38 (.agg #[(.int .i64 0), (.int .i64 0), (.int .i64 0), (.int .i64 0)]) 32 rfl Try.underlying35 info38 rfl (by decide) (by omega) (.slice Ac acc.length cc) acc (⟨y.1, N, y.2.1, f⟩ : De) [.int .i64 y.1, .int .i64 N, .int .i64 y.2.1, .int .i64 f] (fun k => k ≠ w.heap.size ∧ k ≠ wr.heap.size) (fun _ => False) rfl rfl ?aP (fun _ hk => hk.elim) ?aF ?aO ?aB ?aS ?aL ?_; (case aP => exact k38_mkM _ _ _ (⟨y.1, N, y.2.1, f⟩ : De)); (case aB => exact HY2.bl); (case aF => exact HF2.out); (case aO => exact HY2.acc); (case aS => exact HY2.bl.size); (case aL => omega); intro v1 w1 ho hb hg hat; have HZ : RD w w.heap.size m A' c' y.2.2.2 v1 (acc ++ [(⟨y.1, N, y.2.1, f⟩ : De)]) w1 := ⟨blk_grown HY2.b2 hg (Kd.R_away HY2.acc (fun k hk => hk.1)), Nat.le_refl _, hb, HY2.qc, Kd.F_mono (Kd.F_after HY2.row hg hat) (fun k hk => ⟨⟨hk.1.1, hk.1.2.1⟩, hk.2⟩), Kd.R_mono ho (fun k hk => hk.1)⟩; clear ho hb hg hat))
            go_roundw
            case rel => exact ⟨i + 4, j + 1, y.2.2.2, A', c', acc ++ [(⟨y.1, N, y.2.1, f⟩ : De)], by omega, by go_num, ⟨by have := HQ.out.1; omega, HRT.out.1, HRT.out.2, by rw [List.length_append, HQ.out.2.2.2.1]; rfl, by have := HQ.out.2.2.2.1; omega⟩, ⟨HV2.out⟩, HZ⟩
            case measure => simp [intOf]; omega
          · have c1 : decide (250 ≤ n0) = false := decide_eq_false h250
            have HV2 : Sh (deedsG m [] l 0 = (acc ++ [(⟨y.1, N, y.2.1, y.2.2.1⟩ : De)]) ++ deedsG m y.2.2.2 (l.drop (i + 4)) (j + 1)) := ⟨by
              rw [HV.out, drop4 l i i1 i2 i3 HI.out.1 HI.out.2.1 HI.out.2.2 hlt, ← HW.out.1, ← HW.out.2.1, ← HW.out.2.2.1, ← HW.out.2.2.2, deedsG, if_pos (by have := HQ.out.2.2.2.1; omega), HDR.out, if_neg h250]
              simp⟩
            have HF2 : Sh (∀ k, wc.heap.size ≤ k → k ≠ w.heap.size ∧ k ≠ wr.heap.size) := ⟨fun k hk => by
              have h1 := blk_lt HY.b2
              have h2 := blk_lt HY.bd
              omega⟩
            go_wp2_with (first | ((with_reducible refine gate_builtin (b := .append) (xs := #[.tmp 134, .tmp 136]) rfl ?_); at_builtin; refine Kd.R_append k38 (w0 := w) w.heap.size rfl (.tmp 134) (.tmp 136) 35 38 (.agg #[(.int .i64 0), (.int .i64 0), (.int .i64 0), (.int .i64 0)]) 32 rfl Try.underlying35 info38 rfl (by decide) (by omega) (.slice Ac acc.length cc) acc (⟨y.1, N, y.2.1, y.2.2.1⟩ : De) [.int .i64 y.1, .int .i64 N, .int .i64 y.2.1, .int .i64 y.2.2.1] (fun k => k ≠ w.heap.size ∧ k ≠ wr.heap.size) (fun _ => False) rfl rfl ?aP (fun _ hk => hk.elim) ?aF ?aO ?aB ?aS ?aL ?_; (case aP => exact k38_mkM _ _ _ (⟨y.1, N, y.2.1, y.2.2.1⟩ : De)); (case aB => exact HY.bl); (case aF => exact HF2.out); (case aO => exact HY.acc); (case aS => exact HY.bl.size); (case aL => omega); intro v1 w1 ho hb hg hat; have HZ : RD w w.heap.size m A' c' y.2.2.2 v1 (acc ++ [(⟨y.1, N, y.2.1, y.2.2.1⟩ : De)]) w1 := ⟨blk_grown HY.b2 hg (Kd.R_away HY.acc (fun k hk => hk.1)), Nat.le_refl _, hb, HY.qc, Kd.F_mono (Kd.F_after HY.row hg hat) (fun k hk => ⟨⟨hk.1.1, hk.1.2.1⟩, hk.2⟩), Kd.R_mono ho (fun k hk => hk.1)⟩; clear ho hb hg hat))
            go_roundw
            case rel => exact ⟨i + 4, j + 1, y.2.2.2, A', c', acc ++ [(⟨y.1, N, y.2.1, y.2.2.1⟩ : De)], by omega, by go_num, ⟨by have := HQ.out.1; omega, HRT.out.1, HRT.out.2, by rw [List.length_append, HQ.out.2.2.2.1]; rfl, by have := HQ.out.2.2.2.1; omega⟩, ⟨HV2.out⟩, HZ⟩
            case measure => simp [intOf]; omega
      · have HEND : Sh (deedsG m [] l 0 = acc) := ⟨by rw [HV.out, deedsG_full m q (l.drop i) j (by have := HQ.out.2.2.2.1; omega)]; simp⟩
        have b2 : decide ((acc.length : Int) < 100) = false := decide_eq_false (by omega)
        go_wp2
        go_ret
        exact ⟨_, rfl, by rw [HEND.out]; exact Kd.R_mono HX.acc (fun _ _ => trivial), HX.bl⟩
    · have HEND : Sh (deedsG m [] l 0 = acc) := ⟨by rw [HV.out, deedsG_short m q (l.drop i) j (by simp; omega)]; simp⟩
      have b1 : decide ((i : Int) + 3 < (l.length : Int)) = false := decide_eq_false (by omega)
      go_wp2
      go_ret
      exact ⟨_, rfl, by rw [HEND.out]; exact Kd.R_mono HX.acc (fun _ _ => trivial), HX.bl⟩
end Go.Proofs.Ytpddppipjlagfaa
