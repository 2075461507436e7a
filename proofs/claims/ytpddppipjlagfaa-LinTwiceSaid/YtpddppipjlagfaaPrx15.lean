-- Printed by a program of this session (wip/tools/myprint.py) that runs the kit's print with contracts of this session's own.
import Derived.Test.YtpddppipjlagfaaPrx0
namespace Go.Proofs.Ytpddppipjlagfaa.Pr
open Go.RowKit Go.Proofs.YtpddppipjlagfaaW.PrintWords Go.Proofs.YtpddppipjlagfaaW.PrintLast Go.Proofs.YtpddppipjlagfaaW.PrintMore
attribute [local go_sem] max2_int min2_int max_two min_two max_three min_three max_four min_four   -- for this text's walks alone
set_option linter.unusedVariables false
set_option linter.unusedSimpArgs false

/-! ### rickyardref13_put: function 51 -/
def rickyardref13_put.f (l0 : List (S59)) (a1 : Int) (a2_0 : Int) (a2_1 : Int) (a2_2 : Int) : Option ((List (S59))) := (some (([] : List (S59)) : List (S59))).bind fun y195 => (if 0 ≤ a1 then (if a1 ≤ (l0.length : Int) then ((some (l0.take (a1 : Int).toNat : List (S59))).bind fun y198 => (if y195.length + y198.length < 5864062014805 then ((some (y195 ++ y198 : List (S59))).bind fun y202 => ((some (([(⟨a2_0, a2_1, a2_2⟩ : S59)] : List (S59)) : List (S59))).bind fun y205 => (if y202.length + y205.length < 5864062014805 then ((some (y202 ++ y205 : List (S59))).bind fun y208 => ((some (l0.drop (a1 : Int).toNat : List (S59))).bind fun y211 => (if y208.length + y211.length < 5864062014805 then (some (y208 ++ y211)) else (none)))) else (none)))) else (none))) else (none)) else (none))
def rickyardref13_put.T1 : Bool × List (List Nat × List Nat) := (true, [([], []), ([], []), ([], []), ([1, 2], [1, 2]), ([0, 3], [0, 3]), ([], []), ([5], [5]), ([4, 6, 4], [4, 6]), ([], []), ([], []), ([8, 9], [8, 9]), ([7, 10, 7], [7, 10]), ([11, 11, 0, 1, 2, 3, 4, 5, 6, 7, 8, 9, 10, 11], [11])])
def rickyardref13_put.B1 : List Nat := [0, 0, 0, 6, 15, 0, 32, 127, 0, 0, 768, 2047, 4095]
theorem rickyardref13_put.tab1 : rtab .any (opsOf Try.f51 1) = rickyardref13_put.T1 := by kernel_rfl
theorem rickyardref13_put.bits1 : waitsOk rickyardref13_put.T1.2 rickyardref13_put.B1 = true := by kernel_rfl
set_option maxHeartbeats 8000000 in
set_option maxRecDepth 100000 in
theorem rickyardref13_put.calls (A0 : Option Addr) (c0 : Nat) (l0 : List (S59)) (a1 : Int) (a2_0 : Int) (a2_1 : Int) (a2_2 : Int) (r : List (S59)) (w : World) (hr0 : Kd.C k59 w A0 l0.length l0) (hc0 : l0.length ≤ c0) (h : rickyardref13_put.f l0 a1 a2_0 a2_1 a2_2 = some r) :
  Calls Try.prog 51 #[.slice A0 l0.length c0, .int .i64 a1, .agg #[.int .i64 a2_0, .int .i64 a2_1, .int .i64 a2_2]] w fun e w' => ∃ v0_ : Value, e = .returned (v0_) ∧ Kd.R k59 59 w' w.heap.size (fun _ => True) v0_ r ∧ Below w.heap.size w w' := by
 have hu59 := Try.underlying59
 have HR0 := Aside0.mk hr0
 have HC0 := Aside0.mk hc0
 clear hr0 hc0
 have HB := Aside0.mk (Below.refl w.heap.size w)
 have H : ((some (([] : List (S59)) : List (S59))).bind fun y195 => (if 0 ≤ a1 then (if a1 ≤ (l0.length : Int) then ((some (l0.take (a1 : Int).toNat : List (S59))).bind fun y198 => (if y195.length + y198.length < 5864062014805 then ((some (y195 ++ y198 : List (S59))).bind fun y202 => ((some (([(⟨a2_0, a2_1, a2_2⟩ : S59)] : List (S59)) : List (S59))).bind fun y205 => (if y202.length + y205.length < 5864062014805 then ((some (y202 ++ y205 : List (S59))).bind fun y208 => ((some (l0.drop (a1 : Int).toNat : List (S59))).bind fun y211 => (if y208.length + y211.length < 5864062014805 then (some (y208 ++ y211)) else (none)))) else (none)))) else (none))) else (none)) else (none))) = some r := h
 clear h
 obtain ⟨y195, hy195⟩ : ∃ y_ : List (S59), y_ = (([] : List (S59))) := ⟨_, rfl⟩
 replace H : (if 0 ≤ a1 then (if a1 ≤ (l0.length : Int) then ((some (l0.take (a1 : Int).toNat : List (S59))).bind fun y198 => (if y195.length + y198.length < 5864062014805 then ((some (y195 ++ y198 : List (S59))).bind fun y202 => ((some (([(⟨a2_0, a2_1, a2_2⟩ : S59)] : List (S59)) : List (S59))).bind fun y205 => (if y202.length + y205.length < 5864062014805 then ((some (y202 ++ y205 : List (S59))).bind fun y208 => ((some (l0.drop (a1 : Int).toNat : List (S59))).bind fun y211 => (if y208.length + y211.length < 5864062014805 then (some (y208 ++ y211)) else (none)))) else (none)))) else (none))) else (none)) else (none)) = some r := by first | (rw [hy195]; with_reducible exact H) | (have H2_ := (Option.bind_some _ _).symm.trans H; rw [hy195]; with_reducible exact H2_) | (have H2_ := (Option.bind_some _ _).symm.trans H; with_reducible exact H2_) | with_reducible exact H | (rw [hy195]; exact H) | exact H
 have Ny195 := Aside0.mk hy195
 clear hy195
 by_cases c4 : 0 ≤ a1
 ·rw [if_pos c4] at H
  have c4b0 := eq_true c4
  have c4b1 : decide (0 ≤ a1) = true := decide_eq_true c4
  clear c4
  by_cases c5 : a1 ≤ (l0.length : Int)
  ·rw [if_pos c5] at H
   have c5b0 := eq_true c5
   have c5b1 : decide (a1 ≤ (l0.length : Int)) = true := decide_eq_true c5
   clear c5
   obtain ⟨y198, hy198⟩ : ∃ y_ : List (S59), y_ = (l0.take (a1 : Int).toNat) := ⟨_, rfl⟩
   replace H : (if y195.length + y198.length < 5864062014805 then ((some (y195 ++ y198 : List (S59))).bind fun y202 => ((some (([(⟨a2_0, a2_1, a2_2⟩ : S59)] : List (S59)) : List (S59))).bind fun y205 => (if y202.length + y205.length < 5864062014805 then ((some (y202 ++ y205 : List (S59))).bind fun y208 => ((some (l0.drop (a1 : Int).toNat : List (S59))).bind fun y211 => (if y208.length + y211.length < 5864062014805 then (some (y208 ++ y211)) else (none)))) else (none)))) else (none)) = some r := by first | (rw [hy198]; with_reducible exact H) | (have H2_ := (Option.bind_some _ _).symm.trans H; rw [hy198]; with_reducible exact H2_) | (have H2_ := (Option.bind_some _ _).symm.trans H; with_reducible exact H2_) | with_reducible exact H | (rw [hy198]; exact H) | exact H
   have Ny198 := Aside0.mk hy198
   clear hy198
   by_cases c6 : y195.length + y198.length < 5864062014805
   ·rw [if_pos c6] at H
    have LMc6 := Aside0.mk c6
    clear c6
    obtain ⟨y202, hy202⟩ : ∃ y_ : List (S59), y_ = (y195 ++ y198) := ⟨_, rfl⟩
    replace H : ((some (([(⟨a2_0, a2_1, a2_2⟩ : S59)] : List (S59)) : List (S59))).bind fun y205 => (if y202.length + y205.length < 5864062014805 then ((some (y202 ++ y205 : List (S59))).bind fun y208 => ((some (l0.drop (a1 : Int).toNat : List (S59))).bind fun y211 => (if y208.length + y211.length < 5864062014805 then (some (y208 ++ y211)) else (none)))) else (none))) = some r := by first | (rw [hy202]; with_reducible exact H) | (have H2_ := (Option.bind_some _ _).symm.trans H; rw [hy202]; with_reducible exact H2_) | (have H2_ := (Option.bind_some _ _).symm.trans H; with_reducible exact H2_) | with_reducible exact H | (rw [hy202]; exact H) | exact H
    have Ny202 := Aside0.mk hy202
    clear hy202
    obtain ⟨y205, hy205⟩ : ∃ y_ : List (S59), y_ = (([(⟨a2_0, a2_1, a2_2⟩ : S59)] : List (S59))) := ⟨_, rfl⟩
    replace H : (if y202.length + y205.length < 5864062014805 then ((some (y202 ++ y205 : List (S59))).bind fun y208 => ((some (l0.drop (a1 : Int).toNat : List (S59))).bind fun y211 => (if y208.length + y211.length < 5864062014805 then (some (y208 ++ y211)) else (none)))) else (none)) = some r := by first | (rw [hy205]; with_reducible exact H) | (have H2_ := (Option.bind_some _ _).symm.trans H; rw [hy205]; with_reducible exact H2_) | (have H2_ := (Option.bind_some _ _).symm.trans H; with_reducible exact H2_) | with_reducible exact H | (rw [hy205]; exact H) | exact H
    have Ny205 := Aside0.mk hy205
    clear hy205
    by_cases c7 : y202.length + y205.length < 5864062014805
    ·rw [if_pos c7] at H
     have LMc7 := Aside0.mk c7
     clear c7
     obtain ⟨y208, hy208⟩ : ∃ y_ : List (S59), y_ = (y202 ++ y205) := ⟨_, rfl⟩
     replace H : ((some (l0.drop (a1 : Int).toNat : List (S59))).bind fun y211 => (if y208.length + y211.length < 5864062014805 then (some (y208 ++ y211)) else (none))) = some r := by first | (rw [hy208]; with_reducible exact H) | (have H2_ := (Option.bind_some _ _).symm.trans H; rw [hy208]; with_reducible exact H2_) | (have H2_ := (Option.bind_some _ _).symm.trans H; with_reducible exact H2_) | with_reducible exact H | (rw [hy208]; exact H) | exact H
     have Ny208 := Aside0.mk hy208
     clear hy208
     have c8b0 := eq_true (of_decide_eq_true (by first | (with_reducible assumption) | assumption) : 0 ≤ a1)
     have c9b0 := eq_true (of_decide_eq_true (by first | (with_reducible assumption) | assumption) : a1 ≤ (l0.length : Int))
     obtain ⟨y211, hy211⟩ : ∃ y_ : List (S59), y_ = (l0.drop (a1 : Int).toNat) := ⟨_, rfl⟩
     replace H : (if y208.length + y211.length < 5864062014805 then (some (y208 ++ y211)) else (none)) = some r := by first | (rw [hy211]; with_reducible exact H) | (have H2_ := (Option.bind_some _ _).symm.trans H; rw [hy211]; with_reducible exact H2_) | (have H2_ := (Option.bind_some _ _).symm.trans H; with_reducible exact H2_) | with_reducible exact H | (rw [hy211]; exact H) | exact H
     have Ny211 := Aside0.mk hy211
     clear hy211
     by_cases c10 : y208.length + y211.length < 5864062014805
     ·rw [if_pos c10] at H
      have LMc10 := Aside0.mk c10
      clear c10
      obtain ⟨y215, hy215⟩ : ∃ y_ : List (S59), y_ = (y208 ++ y211) := ⟨_, rfl⟩
      replace H : (some y215) = some r := by first | (rw [hy215]; with_reducible exact H) | (have H2_ := (Option.bind_some _ _).symm.trans H; rw [hy215]; with_reducible exact H2_) | (have H2_ := (Option.bind_some _ _).symm.trans H; with_reducible exact H2_) | with_reducible exact H | (rw [hy215]; exact H) | exact H
      have Ny215 := Aside0.mk hy215
      clear hy215
      obtain rfl := Option.some.inj H
      go_enter Try.func51, Try.ntmps51
      try go_wp2_with (first | ((with_reducible refine gate_dst (N := 5) rfl ?_); refine box_event ?hg (N := 5) ?hd (cs := #[.int .i64 a2_0, .int .i64 a2_1, .int .i64 a2_2]) (t := 59) ?hr ?_; (case hd => rfl); (case hg => rfl); (case hr => first | (go_simp; done) | (go_simp; rfl)); intro gb194 hg w11 hbox hb; have n0_ := Aside0.mk (below_step (by repeat (first | (with_reducible first | exact HB.out | apply below_alloc | apply pw_below_drewN | apply below_drew1) | exact HB.out)) hb); have n1_ := Aside0.mk (hbox); have n2_ := Aside0.mk ((by rw [hg]; exact (below_size (by repeat (first | (with_reducible first | exact HB.out | apply below_alloc | apply pw_below_drewN | apply below_drew1) | exact HB.out))) : w.heap.size ≤ gb194)); have n3_ := Aside0.mk ((by rw [hg]; exact (below_size (by repeat (first | (with_reducible first | exact HB.out | apply below_alloc | apply pw_below_drewN | apply below_drew1) | exact HB.out))) : w.heap.size ≤ gb194)); clear HB; have HB := n0_; have BK194 := n1_; have GW194 := n2_; have GE194 := n3_; clear n0_ n1_ n2_ n3_; clear hb hbox hg))
      have n0_ := Aside0.mk (blk_drew BK194.out)
      have n1_ := Aside0.mk (below_drew1 HB.out)
      clear BK194
      clear HB
      have BK194 := n0_
      have HB := n1_
      clear n0_ n1_
      have q13 : (a1 : Int) ≤ ((l0.length : Int) : Int) := of_decide_eq_true (by first | (with_reducible assumption) | assumption)
      obtain ⟨i013, hi013, _, hsz13, _⟩ := info_parts info59
      have hroom13 : l0.length ≤ c0 := HC0.out
      have hC13 : Kd.C k59 _ A0 l0.length l0 := HR0.out
      have hcut13 := cut_to (P := Try.prog) 41 59 .i64 Try.underlying41 hi013 A0 l0.length c0 a1 (of_decide_eq_true (by first | (with_reducible assumption) | assumption)) q13 hroom13
      have hr13 := Kd.C_take (m := (a1 : Int).toNat) hC13 (by omega)
      have hy13 : y198.length = (a1 : Int).toNat := (by rw [Ny198.out, List.length_take]; omega)
      rw [← Ny198.out] at hr13
      rw [← hy13] at hcut13
      have HR201 := Aside0.mk hr13
      have HC201 := Aside0.mk (show y198.length ≤ c0 from by omega)
      clear hr13 hC13 hroom13 hi013 hsz13
      have KY13 := Aside0.mk hy13
      clear hy13
      replace q13 := eq_true q13
      have q14 : (a1 : Int) ≤ ((l0.length : Int) : Int) := of_decide_eq_true (by first | (with_reducible assumption) | assumption)
      obtain ⟨i014, hi014, _, hsz14, _⟩ := info_parts info59
      have hroom14 : l0.length ≤ c0 := HC0.out
      have hC14 : Kd.C k59 _ A0 l0.length l0 := HR0.out
      have q014 : (0 : Int) ≤ (a1 : Int) := of_decide_eq_true (by first | (with_reducible assumption) | assumption)
      have hcut14 := cut_from (P := Try.prog) 41 59 .i64 Try.underlying41 hi014 3 hsz14 A0 l0.length c0 a1 q014 q14
      have hr14 := Kd.C_drop (m := (a1 : Int).toNat) (c := c0) hC14 (by omega) hroom14
      obtain ⟨A14, hA14⟩ : ∃ A1, A1 = (if c0 = (a1 : Int).toNat then A0 else (A0 : Option Addr).map (·.add ((a1 : Int).toNat * 3))) := ⟨_, rfl⟩
      obtain ⟨c14, hc14⟩ : ∃ c1, c1 = c0 - (a1 : Int).toNat := ⟨_, rfl⟩
      have hy14 : y211.length = l0.length - (a1 : Int).toNat := (by rw [Ny211.out, List.length_drop] <;> omega)
      rw [show (l0).drop (a1 : Int).toNat = y211 from Ny211.out.symm] at hr14
      replace hr14 : Kd.C k59 _ A14 y211.length y211 := (by rw [hA14]; exact hr14)
      rw [← hy14, ← hA14, ← hc14] at hcut14
      have HR214 := Aside0.mk hr14
      have HC214 := Aside0.mk (show y211.length ≤ c14 from by rw [hy14, hc14]; exact Nat.sub_le_sub_right hroom14 _)
      clear hr14 hC14 hroom14 hi014 hsz14 hc14
      have KY14 := Aside0.mk hy14
      have KA14 := Aside0.mk hA14
      clear hy14 hA14
      replace q14 := eq_true q14
      refine start_ (n := 13) (S := fun w' => w'.cell? ⟨gb194, 0, none⟩ = some (.int .i64 a2_0) ∧ w'.cell? ⟨gb194, 1, none⟩ = some (.int .i64 a2_1) ∧ w'.cell? ⟨gb194, 2, none⟩ = some (.int .i64 a2_2)) (ds := []) #[false, false, false, false, false, false, false, false, false, false, false, false, false] (by kernel_rfl) rfl rfl ⟨(blk_cell BK194.out 0).trans rfl, (blk_cell BK194.out 1).trans rfl, (blk_cell BK194.out 2).trans rfl⟩ (fun hHeld => ?_); refine with_tabW rickyardref13_put.tab1 rickyardref13_put.bits1 (fun HT_ HW_ => ?_)
      generalize w11.drew = w12 at BK194 HB HR201 HR214 hHeld ⊢
      refine pure_ (i := 1) (N := some 8) (v := ?_) (a' := ?_) #[false, true, false, false, false, false, false, false, false, false, false, false, false] rfl rfl (any_of HT_.out (by kernel_rfl)) (fun _ _ _ h => h) (Or.inl ⟨by rfl, ?_⟩) ?_ ?_
      rotate_left
      ·intro w'
       go_simp
       with_reducible rfl
      rotate_left
      ·simp only [Act.put, List.setIfInBounds_toArray, List.set_cons_zero, List.set_cons_succ, i64_w, i32_w]
       rfl
      refine pure_ (i := 2) (N := some 9) (v := ?_) (a' := ?_) #[false, true, true, false, false, false, false, false, false, false, false, false, false] rfl rfl (any_of HT_.out (by kernel_rfl)) (fun _ _ _ h => h) (Or.inl ⟨by rfl, ?_⟩) ?_ ?_
      rotate_left
      ·intro w'
       go_simp
       with_reducible rfl
      rotate_left
      ·simp only [Act.put, List.setIfInBounds_toArray, List.set_cons_zero, List.set_cons_succ, i64_w, i32_w]
       rfl
      refine pure_ (i := 3) (N := some 10) (v := ?_) (a' := ?_) #[false, true, true, true, false, false, false, false, false, false, false, false, false] rfl rfl (any_of HT_.out (by kernel_rfl)) (fun _ _ _ h => h) (Or.inl ⟨by rfl, ?_⟩) ?_ ?_
      rotate_left
      ·intro w'
       go_simp
       with_reducible rfl
      rotate_left
      ·simp only [Act.put, List.setIfInBounds_toArray, List.set_cons_zero, List.set_cons_succ, i64_w, i32_w]
       rfl
      refine pure_ (i := 8) (N := some 15) (v := ?_) (a' := ?_) #[false, true, true, true, false, false, false, false, true, false, false, false, false] rfl rfl (any_of HT_.out (by kernel_rfl)) (fun _ _ _ h => h) (Or.inl ⟨by rfl, ?_⟩) ?_ ?_
      rotate_left
      ·intro w'
       go_simp
       with_reducible rfl
      rotate_left
      ·simp only [Act.put, List.setIfInBounds_toArray, List.set_cons_zero, List.set_cons_succ, i64_w, i32_w]
       rfl
      refine pure_ (i := 9) (N := some 16) (v := ?_) (a' := ?_) #[false, true, true, true, false, false, false, false, true, true, false, false, false] rfl rfl (any_of HT_.out (by kernel_rfl)) (fun _ _ _ h => h) (Or.inl ⟨by rfl, ?_⟩) ?_ ?_
      rotate_left
      ·intro w'
       go_simp
       with_reducible rfl
      rotate_left
      ·simp only [Act.put, List.setIfInBounds_toArray, List.set_cons_zero, List.set_cons_succ, i64_w, i32_w]
       rfl
      refine pure_ (i := 10) (N := some 17) (v := ?_) (a' := ?_) #[false, true, true, true, false, false, false, false, true, true, true, false, false] rfl rfl (any_of HT_.out (by kernel_rfl)) (fun _ _ _ h => h) (Or.inl ⟨by rfl, ?_⟩) ?_ ?_
      rotate_left
      ·intro w'
       go_simp
       with_reducible rfl
      rotate_left
      ·simp only [Act.put, List.setIfInBounds_toArray, List.set_cons_zero, List.set_cons_succ, i64_w, i32_w]
       rfl
      refine take_ (i := 5) (N := some 12) (v := ?_) (a' := ?_) #[false, true, true, true, false, true, false, false, true, true, true, false, false] rfl rfl (take_ofW HT_.out HW_.out (by kernel_rfl)) (fun _ _ _ h => h) (Or.inl ⟨by rfl, ?_⟩) hHeld ?_ ?_
      rotate_left
      ·rintro w' ⟨s0, s1, s2⟩
       go_simp
       with_reducible rfl
      rotate_left
      ·simp only [Act.put, List.setIfInBounds_toArray, List.set_cons_zero, List.set_cons_succ, i64_w, i32_w]
       rfl
      refine join_ (σ := Value × Value × Value) 3 #[true, true, true, true, true, true, true, false, true, true, true, false, false] (fun s_ => [(7, s_.1), (11, s_.2.1), (13, s_.2.2)]) (fun s_ w' => (w'.cell? ⟨gb194, 0, none⟩ = some (.int .i64 a2_0) ∧ w'.cell? ⟨gb194, 1, none⟩ = some (.int .i64 a2_1) ∧ w'.cell? ⟨gb194, 2, none⟩ = some (.int .i64 a2_2)) ∧ (Kd.R k59 59 w' w.heap.size (fun k_ => some k_ ≠ (s_.2.2 : Value).ownBlock ∧ k_ ≠ gb194) s_.2.1 y202) ∧ (Kd.R k59 59 w' w.heap.size (fun k_ => some k_ ≠ (s_.2.1 : Value).ownBlock ∧ k_ ≠ gb194) s_.2.2 y205) ∧ (w'.heap[gb194]? = some (.cells #[.int .i64 a2_0, .int .i64 a2_1, .int .i64 a2_2] 59 (0, 0))) ∧ (Below w.heap.size w w')) ?_ ?_
      rotate_left
      ·intro hCont
       refine two_ (i := 0) (j := 6) (Ni := some 7) (Nj := some 13) #[true, true, true, true, false, true, false, false, true, true, true, false, false] #[false, true, true, true, false, true, true, false, true, true, true, false, false] rfl rfl rfl rfl (two_of HT_.out (by kernel_rfl)) (by decide) (by decide) (fun K hK => ?_) (fun K hK => ?_)
       ·skip
        refine Kd.R_lit_step k59 _ 59 ?hg (N := 7) ?hd (xs := ([] : List (S59))) (inner := []) (ok := fun _ => True) (okp := fun _ => True) ?hr ?hp (fun _ hk => hk) trivial (Below.refl _ _) (Nat.le_refl _) (by simp) ?_; (case hd => rfl); (case hg => rfl); (case hr => first | (go_simp; done) | (go_simp; rfl)); (case hp => exact (Reps.none _ _))
        intro v196 w15 ho16 hb hg_ hnew_
        clear hg_ hnew_
        (first | rw [← Ny195.out] at ho16 | (simp only [Int.reduceToNat] at ho16; rw [← Ny195.out] at ho16))
        have n0_ := Aside0.mk (Kd.R_lower (Kd.R_newB ho16 (g := gb194) (o := .cells #[.int .i64 a2_0, .int .i64 a2_1, .int .i64 a2_2] 59 (0, 0)) (by (with_reducible repeat (first | refine blk_drewN ?_ _ | refine blk_drew ?_ | refine blk_alloc ?_ _)); exact BK194.out)) (below_size (by repeat (first | (with_reducible first | exact HB.out | apply below_alloc | apply pw_below_drewN | apply below_drew1 | refine below_set ?_ GE194.out) | exact HB.out))))
        have n1_ := Aside0.mk (blk_below (g := gb194) (o := .cells #[.int .i64 a2_0, .int .i64 a2_1, .int .i64 a2_2] 59 (0, 0)) (by (with_reducible repeat (first | refine blk_drewN ?_ _ | refine blk_drew ?_ | refine blk_alloc ?_ _)); exact BK194.out) hb)
        have n2_ := Aside0.mk (below_step (by repeat (first | (with_reducible first | exact HB.out | apply below_alloc | apply pw_below_drewN | apply below_drew1 | refine below_set ?_ GE194.out) | exact HB.out)) hb)
        clear BK194
        clear HB
        have HO197 := n0_
        have BK194 := n1_
        have HB := n2_
        clear n0_ n1_ n2_
        clear hb ho16
        refine hK.out _ _ ⟨(blk_cell BK194.out 0).trans rfl, (blk_cell BK194.out 1).trans rfl, (blk_cell BK194.out 2).trans rfl⟩ (fun hHeld => ?_)
        clear hK K
        refine norm_ (a' := ?_) ?_ ?_
        rotate_left
        ·show Act.put _ (some 7) _ = _
         simp only [Act.put, List.setIfInBounds_toArray, List.set_cons_zero, List.set_cons_succ, i64_w, i32_w]
         rfl
        refine two_ (i := 4) (j := 6) (Ni := some 11) (Nj := some 13) #[true, true, true, true, true, true, false, false, true, true, true, false, false] #[true, true, true, true, false, true, true, false, true, true, true, false, false] rfl rfl rfl rfl (two_of HT_.out (by kernel_rfl)) (by decide) (by decide) (fun K hK => ?_) (fun K hK => ?_)
        ·skip
         refine Kd.R_append_rows_step k59 (w0 := w) w.heap.size (by rfl) (.tmp 7) (.tmp 10) 41 59 (.agg #[(.int .i64 0), (.int .i64 0), (.int .i64 0)]) 24 rfl Try.underlying41 info59 rfl (by decide) (by omega) v196 y195 y198 _ _ _ (fun k_ => k_ ≠ gb194) (fun _ => False) rfl rfl ?aO ?aR (fun _ _ h => h) (fun _ h => h.elim) ?aF ?aB ?aS ?aL ?_
         (case aR => repeat (first | exact (Kd.C_below HR201.out HB.out) | (with_reducible refine Kd.C_alloc ?_ _) | (with_reducible refine Kd.C_drewN ?_ _) | (with_reducible refine Kd.C_drew ?_)))
         (case aB => exact (by repeat (first | (with_reducible first | exact HB.out | apply below_alloc | apply pw_below_drewN | apply below_drew1 | refine below_set ?_ GE194.out) | exact HB.out)))
         (case aF => exact (fun k_ hk => Kd.freshB (g := gb194) (o := .cells #[.int .i64 a2_0, .int .i64 a2_1, .int .i64 a2_2] 59 (0, 0)) (by (with_reducible repeat (first | refine blk_drewN ?_ _ | refine blk_drew ?_ | refine blk_alloc ?_ _)); exact BK194.out) k_ hk))
         (case aO => exact (by (with_reducible repeat (first | apply Kd.R_alloc | apply Kd.R_drewN | apply Kd.R_drew)); exact Kd.R_mono HO197.out (fun _ hk => hk.2)))
         (case aS => exact (below_size (by repeat (first | (with_reducible first | exact HB.out | apply below_alloc | apply pw_below_drewN | apply below_drew1 | refine below_set ?_ GE194.out) | exact HB.out))))
         (case aL => have := LMc6.out; omega)
         intro v203 w17 ho hb hg hat
         rw [← Ny202.out] at ho
         have n0_ := Aside0.mk (blk_grown (g := gb194) (o := .cells #[.int .i64 a2_0, .int .i64 a2_1, .int .i64 a2_2] 59 (0, 0)) (by (with_reducible repeat (first | refine blk_drewN ?_ _ | refine blk_drew ?_ | refine blk_alloc ?_ _)); exact BK194.out) hg (Kd.R_away HO197.out (fun _ hk => hk.2)))
         have n1_ := Aside0.mk (hb)
         have n2_ := Aside0.mk (ho)
         clear BK194
         clear HB
         clear HO197
         have BK194 := n0_
         have HB := n1_
         have HO204 := n2_
         clear n0_ n1_ n2_
         clear ho hb hg hat
         refine hK.out _ _ ⟨(blk_cell BK194.out 0).trans rfl, (blk_cell BK194.out 1).trans rfl, (blk_cell BK194.out 2).trans rfl⟩ (fun hHeld => ?_)
         clear hK K
         refine norm_ (a' := ?_) ?_ ?_
         rotate_left
         ·show Act.put _ (some 11) _ = _
          simp only [Act.put, List.setIfInBounds_toArray, List.set_cons_zero, List.set_cons_succ, i64_w, i32_w]
          rfl
         refine one_ (i := 6) (N := some 13) #[true, true, true, true, true, true, true, false, true, true, true, false, false] rfl rfl (one_of HT_.out (by kernel_rfl)) (by decide) (fun K hK => ?_)
         refine Kd.R_lit_step k59 _ 59 ?hg (N := 13) ?hd (xs := ([(⟨a2_0, a2_1, a2_2⟩ : S59)] : List (S59))) (inner := [.int .i64 a2_0, .int .i64 a2_1, .int .i64 a2_2]) (ok := fun _ => True) (okp := fun _ => True) ?hr ?hp (fun _ hk => hk) trivial (Below.refl _ _) (Nat.le_refl _) (by simp) ?_; (case hd => rfl); (case hg => rfl); (case hr => first | (go_simp; done) | (go_simp; rfl)); (case hp => exact (Reps.c3 (show Kd.M k59 _ _ _ (⟨a2_0, a2_1, a2_2⟩ : S59) [.int .i64 a2_0, .int .i64 a2_1, .int .i64 a2_2] from (k59_mkM _ _ _ (⟨a2_0, a2_1, a2_2⟩ : S59) )) (Reps.none _ _)))
         intro v206 w18 ho19 hb hg_ hnew_
         clear hg_ hnew_
         (first | rw [← Ny205.out] at ho19 | (simp only [Int.reduceToNat] at ho19; rw [← Ny205.out] at ho19))
         have n0_ := Aside0.mk (Kd.R_elder' (by (with_reducible repeat (first | apply Kd.R_alloc | apply Kd.R_drewN | apply Kd.R_drew)); exact HO204.out) (Kd.R_base ho19) hb)
         have n1_ := Aside0.mk (Kd.R_lower (Kd.R_newB (Kd.R_new' ho19 (Kd.R_lt (by (with_reducible repeat (first | apply Kd.R_alloc | apply Kd.R_drewN | apply Kd.R_drew)); exact HO204.out))) (g := gb194) (o := .cells #[.int .i64 a2_0, .int .i64 a2_1, .int .i64 a2_2] 59 (0, 0)) (by (with_reducible repeat (first | refine blk_drewN ?_ _ | refine blk_drew ?_ | refine blk_alloc ?_ _)); exact BK194.out)) (below_size (by repeat (first | (with_reducible first | exact HB.out | apply below_alloc | apply pw_below_drewN | apply below_drew1 | refine below_set ?_ GE194.out) | exact HB.out))))
         have n2_ := Aside0.mk (blk_below (g := gb194) (o := .cells #[.int .i64 a2_0, .int .i64 a2_1, .int .i64 a2_2] 59 (0, 0)) (by (with_reducible repeat (first | refine blk_drewN ?_ _ | refine blk_drew ?_ | refine blk_alloc ?_ _)); exact BK194.out) hb)
         have n3_ := Aside0.mk (below_step (by repeat (first | (with_reducible first | exact HB.out | apply below_alloc | apply pw_below_drewN | apply below_drew1 | refine below_set ?_ GE194.out) | exact HB.out)) hb)
         clear HO204
         clear BK194
         clear HB
         have HO204 := n0_
         have HO207 := n1_
         have BK194 := n2_
         have HB := n3_
         clear n0_ n1_ n2_ n3_
         clear hb ho19
         refine hK.out _ _ ⟨(blk_cell BK194.out 0).trans rfl, (blk_cell BK194.out 1).trans rfl, (blk_cell BK194.out 2).trans rfl⟩ (fun hHeld => ?_)
         clear hK K
         refine norm_ (a' := ?_) ?_ ?_
         rotate_left
         ·show Act.put _ (some 13) _ = _
          simp only [Act.put, List.setIfInBounds_toArray, List.set_cons_zero, List.set_cons_succ, i64_w, i32_w]
          rfl
         exact norm_ (by simp only [putAll, Act.put, List.setIfInBounds_toArray, List.set_cons_zero, List.set_cons_succ]) (hCont (v196, v203, v206) _ ⟨hHeld, (by (with_reducible repeat (first | apply Kd.R_alloc | apply Kd.R_drewN | apply Kd.R_drew)); exact Kd.R_mono HO204.out (fun _ hk => ⟨hk.2, hk.1⟩)), (by (with_reducible repeat (first | apply Kd.R_alloc | apply Kd.R_drewN | apply Kd.R_drew)); exact Kd.R_mono HO207.out (fun _ hk => ⟨hk.1.2, hk.2⟩)), (by (with_reducible repeat (first | refine blk_drewN ?_ _ | refine blk_drew ?_ | refine blk_alloc ?_ _)); exact BK194.out), (by repeat (first | (with_reducible first | exact HB.out | apply below_alloc | apply pw_below_drewN | apply below_drew1 | refine below_set ?_ GE194.out) | exact HB.out))⟩)
        ·skip
         refine Kd.R_lit_step k59 _ 59 ?hg (N := 13) ?hd (xs := ([(⟨a2_0, a2_1, a2_2⟩ : S59)] : List (S59))) (inner := [.int .i64 a2_0, .int .i64 a2_1, .int .i64 a2_2]) (ok := fun _ => True) (okp := fun _ => True) ?hr ?hp (fun _ hk => hk) trivial (Below.refl _ _) (Nat.le_refl _) (by simp) ?_; (case hd => rfl); (case hg => rfl); (case hr => first | (go_simp; done) | (go_simp; rfl)); (case hp => exact (Reps.c3 (show Kd.M k59 _ _ _ (⟨a2_0, a2_1, a2_2⟩ : S59) [.int .i64 a2_0, .int .i64 a2_1, .int .i64 a2_2] from (k59_mkM _ _ _ (⟨a2_0, a2_1, a2_2⟩ : S59) )) (Reps.none _ _)))
         intro v206 w17 ho18 hb hg_ hnew_
         clear hg_ hnew_
         (first | rw [← Ny205.out] at ho18 | (simp only [Int.reduceToNat] at ho18; rw [← Ny205.out] at ho18))
         have n0_ := Aside0.mk (Kd.R_elder' (by (with_reducible repeat (first | apply Kd.R_alloc | apply Kd.R_drewN | apply Kd.R_drew)); exact HO197.out) (Kd.R_base ho18) hb)
         have n1_ := Aside0.mk (Kd.R_lower (Kd.R_newB (Kd.R_new' ho18 (Kd.R_lt (by (with_reducible repeat (first | apply Kd.R_alloc | apply Kd.R_drewN | apply Kd.R_drew)); exact HO197.out))) (g := gb194) (o := .cells #[.int .i64 a2_0, .int .i64 a2_1, .int .i64 a2_2] 59 (0, 0)) (by (with_reducible repeat (first | refine blk_drewN ?_ _ | refine blk_drew ?_ | refine blk_alloc ?_ _)); exact BK194.out)) (below_size (by repeat (first | (with_reducible first | exact HB.out | apply below_alloc | apply pw_below_drewN | apply below_drew1 | refine below_set ?_ GE194.out) | exact HB.out))))
         have n2_ := Aside0.mk (blk_below (g := gb194) (o := .cells #[.int .i64 a2_0, .int .i64 a2_1, .int .i64 a2_2] 59 (0, 0)) (by (with_reducible repeat (first | refine blk_drewN ?_ _ | refine blk_drew ?_ | refine blk_alloc ?_ _)); exact BK194.out) hb)
         have n3_ := Aside0.mk (below_step (by repeat (first | (with_reducible first | exact HB.out | apply below_alloc | apply pw_below_drewN | apply below_drew1 | refine below_set ?_ GE194.out) | exact HB.out)) hb)
         clear HO197
         clear BK194
         clear HB
         have HO197 := n0_
         have HO207 := n1_
         have BK194 := n2_
         have HB := n3_
         clear n0_ n1_ n2_ n3_
         clear hb ho18
         refine hK.out _ _ ⟨(blk_cell BK194.out 0).trans rfl, (blk_cell BK194.out 1).trans rfl, (blk_cell BK194.out 2).trans rfl⟩ (fun hHeld => ?_)
         clear hK K
         refine norm_ (a' := ?_) ?_ ?_
         rotate_left
         ·show Act.put _ (some 13) _ = _
          simp only [Act.put, List.setIfInBounds_toArray, List.set_cons_zero, List.set_cons_succ, i64_w, i32_w]
          rfl
         refine one_ (i := 4) (N := some 11) #[true, true, true, true, true, true, true, false, true, true, true, false, false] rfl rfl (one_of HT_.out (by kernel_rfl)) (by decide) (fun K hK => ?_)
         refine Kd.R_append_rows_step k59 (w0 := w) w.heap.size (by rfl) (.tmp 7) (.tmp 10) 41 59 (.agg #[(.int .i64 0), (.int .i64 0), (.int .i64 0)]) 24 rfl Try.underlying41 info59 rfl (by decide) (by omega) v196 y195 y198 _ _ _ (fun k_ => some k_ ≠ (v206 : Value).ownBlock ∧ k_ ≠ gb194) (fun _ => False) rfl rfl ?aO ?aR (fun _ _ h => h) (fun _ h => h.elim) ?aF ?aB ?aS ?aL ?_
         (case aR => repeat (first | exact (Kd.C_below HR201.out HB.out) | (with_reducible refine Kd.C_alloc ?_ _) | (with_reducible refine Kd.C_drewN ?_ _) | (with_reducible refine Kd.C_drew ?_)))
         (case aB => exact (by repeat (first | (with_reducible first | exact HB.out | apply below_alloc | apply pw_below_drewN | apply below_drew1 | refine below_set ?_ GE194.out) | exact HB.out)))
         (case aF => exact (fun k_ hk => ⟨Kd.fresh' (Kd.R_lt (by (with_reducible repeat (first | apply Kd.R_alloc | apply Kd.R_drewN | apply Kd.R_drew)); exact HO207.out)) k_ hk, Kd.freshB (g := gb194) (o := .cells #[.int .i64 a2_0, .int .i64 a2_1, .int .i64 a2_2] 59 (0, 0)) (by (with_reducible repeat (first | refine blk_drewN ?_ _ | refine blk_drew ?_ | refine blk_alloc ?_ _)); exact BK194.out) k_ hk⟩))
         (case aO => exact (by (with_reducible repeat (first | apply Kd.R_alloc | apply Kd.R_drewN | apply Kd.R_drew)); exact Kd.R_mono HO197.out (fun _ hk => ⟨hk.2, hk.1.2⟩)))
         (case aS => exact (below_size (by repeat (first | (with_reducible first | exact HB.out | apply below_alloc | apply pw_below_drewN | apply below_drew1 | refine below_set ?_ GE194.out) | exact HB.out))))
         (case aL => have := LMc6.out; omega)
         intro v203 w19 ho hb hg hat
         rw [← Ny202.out] at ho
         have n0_ := Aside0.mk (blk_grown (g := gb194) (o := .cells #[.int .i64 a2_0, .int .i64 a2_1, .int .i64 a2_2] 59 (0, 0)) (by (with_reducible repeat (first | refine blk_drewN ?_ _ | refine blk_drew ?_ | refine blk_alloc ?_ _)); exact BK194.out) hg (Kd.R_away HO197.out (fun _ hk => hk.1.2)))
         have n1_ := Aside0.mk (Kd.R_after (ok := (fun k_ => k_ ≠ gb194)) (by (with_reducible repeat (first | apply Kd.R_alloc | apply Kd.R_drewN | apply Kd.R_drew)); exact Kd.R_mono HO207.out (fun _ hk => ⟨hk.2, hk.1.2⟩)) hg hat)
         have n2_ := Aside0.mk (hb)
         have n3_ := Aside0.mk (ho)
         clear BK194
         clear HO207
         clear HB
         clear HO197
         have BK194 := n0_
         have HO207 := n1_
         have HB := n2_
         have HO204 := n3_
         clear n0_ n1_ n2_ n3_
         clear ho hb hg hat
         refine hK.out _ _ ⟨(blk_cell BK194.out 0).trans rfl, (blk_cell BK194.out 1).trans rfl, (blk_cell BK194.out 2).trans rfl⟩ (fun hHeld => ?_)
         clear hK K
         refine norm_ (a' := ?_) ?_ ?_
         rotate_left
         ·show Act.put _ (some 11) _ = _
          simp only [Act.put, List.setIfInBounds_toArray, List.set_cons_zero, List.set_cons_succ, i64_w, i32_w]
          rfl
         exact norm_ (by simp only [putAll, Act.put, List.setIfInBounds_toArray, List.set_cons_zero, List.set_cons_succ]) (hCont (v196, v203, v206) _ ⟨hHeld, (by (with_reducible repeat (first | apply Kd.R_alloc | apply Kd.R_drewN | apply Kd.R_drew)); exact HO204.out), (by (with_reducible repeat (first | apply Kd.R_alloc | apply Kd.R_drewN | apply Kd.R_drew)); exact Kd.R_mono HO207.out (fun _ hk => ⟨hk.2, hk.1⟩)), (by (with_reducible repeat (first | refine blk_drewN ?_ _ | refine blk_drew ?_ | refine blk_alloc ?_ _)); exact BK194.out), (by repeat (first | (with_reducible first | exact HB.out | apply below_alloc | apply pw_below_drewN | apply below_drew1 | refine below_set ?_ GE194.out) | exact HB.out))⟩)
       ·skip
        refine Kd.R_lit_step k59 _ 59 ?hg (N := 13) ?hd (xs := ([(⟨a2_0, a2_1, a2_2⟩ : S59)] : List (S59))) (inner := [.int .i64 a2_0, .int .i64 a2_1, .int .i64 a2_2]) (ok := fun _ => True) (okp := fun _ => True) ?hr ?hp (fun _ hk => hk) trivial (Below.refl _ _) (Nat.le_refl _) (by simp) ?_; (case hd => rfl); (case hg => rfl); (case hr => first | (go_simp; done) | (go_simp; rfl)); (case hp => exact (Reps.c3 (show Kd.M k59 _ _ _ (⟨a2_0, a2_1, a2_2⟩ : S59) [.int .i64 a2_0, .int .i64 a2_1, .int .i64 a2_2] from (k59_mkM _ _ _ (⟨a2_0, a2_1, a2_2⟩ : S59) )) (Reps.none _ _)))
        intro v206 w15 ho16 hb hg_ hnew_
        clear hg_ hnew_
        (first | rw [← Ny205.out] at ho16 | (simp only [Int.reduceToNat] at ho16; rw [← Ny205.out] at ho16))
        have n0_ := Aside0.mk (Kd.R_lower (Kd.R_newB ho16 (g := gb194) (o := .cells #[.int .i64 a2_0, .int .i64 a2_1, .int .i64 a2_2] 59 (0, 0)) (by (with_reducible repeat (first | refine blk_drewN ?_ _ | refine blk_drew ?_ | refine blk_alloc ?_ _)); exact BK194.out)) (below_size (by repeat (first | (with_reducible first | exact HB.out | apply below_alloc | apply pw_below_drewN | apply below_drew1 | refine below_set ?_ GE194.out) | exact HB.out))))
        have n1_ := Aside0.mk (blk_below (g := gb194) (o := .cells #[.int .i64 a2_0, .int .i64 a2_1, .int .i64 a2_2] 59 (0, 0)) (by (with_reducible repeat (first | refine blk_drewN ?_ _ | refine blk_drew ?_ | refine blk_alloc ?_ _)); exact BK194.out) hb)
        have n2_ := Aside0.mk (below_step (by repeat (first | (with_reducible first | exact HB.out | apply below_alloc | apply pw_below_drewN | apply below_drew1 | refine below_set ?_ GE194.out) | exact HB.out)) hb)
        clear BK194
        clear HB
        have HO207 := n0_
        have BK194 := n1_
        have HB := n2_
        clear n0_ n1_ n2_
        clear hb ho16
        refine hK.out _ _ ⟨(blk_cell BK194.out 0).trans rfl, (blk_cell BK194.out 1).trans rfl, (blk_cell BK194.out 2).trans rfl⟩ (fun hHeld => ?_)
        clear hK K
        refine norm_ (a' := ?_) ?_ ?_
        rotate_left
        ·show Act.put _ (some 13) _ = _
         simp only [Act.put, List.setIfInBounds_toArray, List.set_cons_zero, List.set_cons_succ, i64_w, i32_w]
         rfl
        refine one_ (i := 0) (N := some 7) #[true, true, true, true, false, true, true, false, true, true, true, false, false] rfl rfl (one_of HT_.out (by kernel_rfl)) (by decide) (fun K hK => ?_)
        refine Kd.R_lit_step k59 _ 59 ?hg (N := 7) ?hd (xs := ([] : List (S59))) (inner := []) (ok := fun _ => True) (okp := fun _ => True) ?hr ?hp (fun _ hk => hk) trivial (Below.refl _ _) (Nat.le_refl _) (by simp) ?_; (case hd => rfl); (case hg => rfl); (case hr => first | (go_simp; done) | (go_simp; rfl)); (case hp => exact (Reps.none _ _))
        intro v196 w17 ho18 hb hg_ hnew_
        clear hg_ hnew_
        (first | rw [← Ny195.out] at ho18 | (simp only [Int.reduceToNat] at ho18; rw [← Ny195.out] at ho18))
        have n0_ := Aside0.mk (Kd.R_elder' (by (with_reducible repeat (first | apply Kd.R_alloc | apply Kd.R_drewN | apply Kd.R_drew)); exact HO207.out) (Kd.R_base ho18) hb)
        have n1_ := Aside0.mk (Kd.R_lower (Kd.R_newB (Kd.R_new' ho18 (Kd.R_lt (by (with_reducible repeat (first | apply Kd.R_alloc | apply Kd.R_drewN | apply Kd.R_drew)); exact HO207.out))) (g := gb194) (o := .cells #[.int .i64 a2_0, .int .i64 a2_1, .int .i64 a2_2] 59 (0, 0)) (by (with_reducible repeat (first | refine blk_drewN ?_ _ | refine blk_drew ?_ | refine blk_alloc ?_ _)); exact BK194.out)) (below_size (by repeat (first | (with_reducible first | exact HB.out | apply below_alloc | apply pw_below_drewN | apply below_drew1 | refine below_set ?_ GE194.out) | exact HB.out))))
        have n2_ := Aside0.mk (blk_below (g := gb194) (o := .cells #[.int .i64 a2_0, .int .i64 a2_1, .int .i64 a2_2] 59 (0, 0)) (by (with_reducible repeat (first | refine blk_drewN ?_ _ | refine blk_drew ?_ | refine blk_alloc ?_ _)); exact BK194.out) hb)
        have n3_ := Aside0.mk (below_step (by repeat (first | (with_reducible first | exact HB.out | apply below_alloc | apply pw_below_drewN | apply below_drew1 | refine below_set ?_ GE194.out) | exact HB.out)) hb)
        clear HO207
        clear BK194
        clear HB
        have HO207 := n0_
        have HO197 := n1_
        have BK194 := n2_
        have HB := n3_
        clear n0_ n1_ n2_ n3_
        clear hb ho18
        refine hK.out _ _ ⟨(blk_cell BK194.out 0).trans rfl, (blk_cell BK194.out 1).trans rfl, (blk_cell BK194.out 2).trans rfl⟩ (fun hHeld => ?_)
        clear hK K
        refine norm_ (a' := ?_) ?_ ?_
        rotate_left
        ·show Act.put _ (some 7) _ = _
         simp only [Act.put, List.setIfInBounds_toArray, List.set_cons_zero, List.set_cons_succ, i64_w, i32_w]
         rfl
        refine one_ (i := 4) (N := some 11) #[true, true, true, true, true, true, true, false, true, true, true, false, false] rfl rfl (one_of HT_.out (by kernel_rfl)) (by decide) (fun K hK => ?_)
        refine Kd.R_append_rows_step k59 (w0 := w) w.heap.size (by rfl) (.tmp 7) (.tmp 10) 41 59 (.agg #[(.int .i64 0), (.int .i64 0), (.int .i64 0)]) 24 rfl Try.underlying41 info59 rfl (by decide) (by omega) v196 y195 y198 _ _ _ (fun k_ => some k_ ≠ (v206 : Value).ownBlock ∧ k_ ≠ gb194) (fun _ => False) rfl rfl ?aO ?aR (fun _ _ h => h) (fun _ h => h.elim) ?aF ?aB ?aS ?aL ?_
        (case aR => repeat (first | exact (Kd.C_below HR201.out HB.out) | (with_reducible refine Kd.C_alloc ?_ _) | (with_reducible refine Kd.C_drewN ?_ _) | (with_reducible refine Kd.C_drew ?_)))
        (case aB => exact (by repeat (first | (with_reducible first | exact HB.out | apply below_alloc | apply pw_below_drewN | apply below_drew1 | refine below_set ?_ GE194.out) | exact HB.out)))
        (case aF => exact (fun k_ hk => ⟨Kd.fresh' (Kd.R_lt (by (with_reducible repeat (first | apply Kd.R_alloc | apply Kd.R_drewN | apply Kd.R_drew)); exact HO207.out)) k_ hk, Kd.freshB (g := gb194) (o := .cells #[.int .i64 a2_0, .int .i64 a2_1, .int .i64 a2_2] 59 (0, 0)) (by (with_reducible repeat (first | refine blk_drewN ?_ _ | refine blk_drew ?_ | refine blk_alloc ?_ _)); exact BK194.out) k_ hk⟩))
        (case aO => exact (by (with_reducible repeat (first | apply Kd.R_alloc | apply Kd.R_drewN | apply Kd.R_drew)); exact Kd.R_mono HO197.out (fun _ hk => ⟨hk.1.2, hk.2⟩)))
        (case aS => exact (below_size (by repeat (first | (with_reducible first | exact HB.out | apply below_alloc | apply pw_below_drewN | apply below_drew1 | refine below_set ?_ GE194.out) | exact HB.out))))
        (case aL => have := LMc6.out; omega)
        intro v203 w19 ho hb hg hat
        rw [← Ny202.out] at ho
        have n0_ := Aside0.mk (blk_grown (g := gb194) (o := .cells #[.int .i64 a2_0, .int .i64 a2_1, .int .i64 a2_2] 59 (0, 0)) (by (with_reducible repeat (first | refine blk_drewN ?_ _ | refine blk_drew ?_ | refine blk_alloc ?_ _)); exact BK194.out) hg (Kd.R_away HO197.out (fun _ hk => hk.2)))
        have n1_ := Aside0.mk (Kd.R_after (ok := (fun k_ => k_ ≠ gb194)) (by (with_reducible repeat (first | apply Kd.R_alloc | apply Kd.R_drewN | apply Kd.R_drew)); exact Kd.R_mono HO207.out (fun _ hk => ⟨hk.1.2, hk.2⟩)) hg hat)
        have n2_ := Aside0.mk (hb)
        have n3_ := Aside0.mk (ho)
        clear BK194
        clear HO207
        clear HB
        clear HO197
        have BK194 := n0_
        have HO207 := n1_
        have HB := n2_
        have HO204 := n3_
        clear n0_ n1_ n2_ n3_
        clear ho hb hg hat
        refine hK.out _ _ ⟨(blk_cell BK194.out 0).trans rfl, (blk_cell BK194.out 1).trans rfl, (blk_cell BK194.out 2).trans rfl⟩ (fun hHeld => ?_)
        clear hK K
        refine norm_ (a' := ?_) ?_ ?_
        rotate_left
        ·show Act.put _ (some 11) _ = _
         simp only [Act.put, List.setIfInBounds_toArray, List.set_cons_zero, List.set_cons_succ, i64_w, i32_w]
         rfl
        exact norm_ (by simp only [putAll, Act.put, List.setIfInBounds_toArray, List.set_cons_zero, List.set_cons_succ]) (hCont (v196, v203, v206) _ ⟨hHeld, (by (with_reducible repeat (first | apply Kd.R_alloc | apply Kd.R_drewN | apply Kd.R_drew)); exact HO204.out), (by (with_reducible repeat (first | apply Kd.R_alloc | apply Kd.R_drewN | apply Kd.R_drew)); exact Kd.R_mono HO207.out (fun _ hk => ⟨hk.2, hk.1⟩)), (by (with_reducible repeat (first | refine blk_drewN ?_ _ | refine blk_drew ?_ | refine blk_alloc ?_ _)); exact BK194.out), (by repeat (first | (with_reducible first | exact HB.out | apply below_alloc | apply pw_below_drewN | apply below_drew1 | refine below_set ?_ GE194.out) | exact HB.out))⟩)
      rintro ⟨v196, v203, v206⟩ w20 ⟨hS_, h0_, h1_, h2_, h3_⟩
      have n0_ : Aside0 (Kd.R k59 59 w20 w.heap.size (fun k_ => some k_ ≠ (v206 : Value).ownBlock ∧ k_ ≠ gb194) v203 y202) := ⟨h0_⟩
      have n1_ : Aside0 (Kd.R k59 59 w20 w.heap.size (fun k_ => some k_ ≠ (v203 : Value).ownBlock ∧ k_ ≠ gb194) v206 y205) := ⟨h1_⟩
      have n2_ : Aside0 (w20.heap[gb194]? = some (.cells #[.int .i64 a2_0, .int .i64 a2_1, .int .i64 a2_2] 59 (0, 0))) := ⟨h2_⟩
      have n3_ : Aside0 (Below w.heap.size w w20) := ⟨h3_⟩
      clear BK194
      clear HB
      clear h0_ h1_ h2_ h3_
      have HO204 := n0_
      have HO207 := n1_
      have BK194 := n2_
      have HB := n3_
      clear n0_ n1_ n2_ n3_
      have hHeld : w20.cell? ⟨gb194, 0, none⟩ = some (.int .i64 a2_0) ∧ w20.cell? ⟨gb194, 1, none⟩ = some (.int .i64 a2_1) ∧ w20.cell? ⟨gb194, 2, none⟩ = some (.int .i64 a2_2) := hS_
      obtain ⟨Ao22, co22, eo22⟩ := Kd.R_slice HO207.out
      (first | subst eo22 | (injection eo22 with f1_ f2_ f3_; have f4_ := f1_.symm; have f5_ := f3_.symm; clear f1_ f2_ f3_; subst f4_; subst f5_))
      refine norm_ (a' := ?_) ?_ ?_
      rotate_left
      ·simp only [putAll, Act.put, List.setIfInBounds_toArray, List.set_cons_zero, List.set_cons_succ]
       rfl
      refine one_ (i := 7) (N := some 14) #[true, true, true, true, true, true, true, true, true, true, true, false, false] rfl rfl (one_of HT_.out (by kernel_rfl)) (by decide) (fun K hK => ?_)
      refine Kd.R_append_rows_step k59 (w0 := w) w.heap.size (by rfl) (.tmp 11) (.tmp 13) 41 59 (.agg #[(.int .i64 0), (.int .i64 0), (.int .i64 0)]) 24 rfl Try.underlying41 info59 rfl (by decide) (by omega) v203 y202 y205 _ _ _ (fun k_ => some k_ ≠ (.slice Ao22 y205.length co22 : Value).ownBlock ∧ k_ ≠ gb194) (fun _ => False) rfl rfl ?aO ?aR (fun _ _ h => h) (fun _ h => h.elim) ?aF ?aB ?aS ?aL ?_
      (case aR => repeat (first | exact (Kd.R_reads' HO207.out).2.2 | (with_reducible refine Kd.C_alloc ?_ _) | (with_reducible refine Kd.C_drewN ?_ _) | (with_reducible refine Kd.C_drew ?_)))
      (case aB => exact (by repeat (first | (with_reducible first | exact HB.out | apply below_alloc | apply pw_below_drewN | apply below_drew1 | refine below_set ?_ GE194.out) | exact HB.out)))
      (case aF => exact (fun k_ hk => ⟨Kd.fresh' (Kd.R_lt (by (with_reducible repeat (first | apply Kd.R_alloc | apply Kd.R_drewN | apply Kd.R_drew)); exact HO207.out)) k_ hk, Kd.freshB (g := gb194) (o := .cells #[.int .i64 a2_0, .int .i64 a2_1, .int .i64 a2_2] 59 (0, 0)) (by (with_reducible repeat (first | refine blk_drewN ?_ _ | refine blk_drew ?_ | refine blk_alloc ?_ _)); exact BK194.out) k_ hk⟩))
      (case aO => exact (by (with_reducible repeat (first | apply Kd.R_alloc | apply Kd.R_drewN | apply Kd.R_drew)); exact HO204.out))
      (case aS => exact (below_size (by repeat (first | (with_reducible first | exact HB.out | apply below_alloc | apply pw_below_drewN | apply below_drew1 | refine below_set ?_ GE194.out) | exact HB.out))))
      (case aL => have := LMc7.out; omega)
      intro v209 w21 ho hb hg hat
      rw [← Ny208.out] at ho
      have n0_ := Aside0.mk (blk_grown (g := gb194) (o := .cells #[.int .i64 a2_0, .int .i64 a2_1, .int .i64 a2_2] 59 (0, 0)) (by (with_reducible repeat (first | refine blk_drewN ?_ _ | refine blk_drew ?_ | refine blk_alloc ?_ _)); exact BK194.out) hg (Kd.R_away HO204.out (fun _ hk => hk.2)))
      have n1_ := Aside0.mk (Kd.R_after (ok := (fun k_ => k_ ≠ gb194)) (by (with_reducible repeat (first | apply Kd.R_alloc | apply Kd.R_drewN | apply Kd.R_drew)); exact Kd.R_mono HO207.out (fun _ hk => ⟨hk.2, hk.1⟩)) hg hat)
      have n2_ := Aside0.mk (hb)
      have n3_ := Aside0.mk (ho)
      clear BK194
      clear HO207
      clear HB
      clear HO204
      have BK194 := n0_
      have HO207 := n1_
      have HB := n2_
      have HO210 := n3_
      clear n0_ n1_ n2_ n3_
      clear ho hb hg hat
      refine hK.out _ _ ⟨(blk_cell BK194.out 0).trans rfl, (blk_cell BK194.out 1).trans rfl, (blk_cell BK194.out 2).trans rfl⟩ (fun hHeld => ?_)
      clear hK K
      refine norm_ (a' := ?_) ?_ ?_
      rotate_left
      ·show Act.put _ (some 14) _ = _
       simp only [Act.put, List.setIfInBounds_toArray, List.set_cons_zero, List.set_cons_succ, i64_w, i32_w]
       rfl
      refine one_ (i := 11) (N := some 18) #[true, true, true, true, true, true, true, true, true, true, true, true, false] rfl rfl (one_of HT_.out (by kernel_rfl)) (by decide) (fun K hK => ?_)
      refine Kd.R_append_rows_step k59 (w0 := w) w.heap.size (by rfl) (.tmp 14) (.tmp 17) 41 59 (.agg #[(.int .i64 0), (.int .i64 0), (.int .i64 0)]) 24 rfl Try.underlying41 info59 rfl (by decide) (by omega) v209 y208 y211 _ _ _ (fun k_ => some k_ ≠ (.slice Ao22 y205.length co22 : Value).ownBlock ∧ k_ ≠ gb194) (fun _ => False) rfl rfl ?aO ?aR (fun _ _ h => h) (fun _ h => h.elim) ?aF ?aB ?aS ?aL ?_
      (case aR => repeat (first | exact (Kd.C_below HR214.out HB.out) | (with_reducible refine Kd.C_alloc ?_ _) | (with_reducible refine Kd.C_drewN ?_ _) | (with_reducible refine Kd.C_drew ?_)))
      (case aB => exact (by repeat (first | (with_reducible first | exact HB.out | apply below_alloc | apply pw_below_drewN | apply below_drew1 | refine below_set ?_ GE194.out) | exact HB.out)))
      (case aF => exact (fun k_ hk => ⟨Kd.fresh' (Kd.R_lt (by (with_reducible repeat (first | apply Kd.R_alloc | apply Kd.R_drewN | apply Kd.R_drew)); exact HO207.out)) k_ hk, Kd.freshB (g := gb194) (o := .cells #[.int .i64 a2_0, .int .i64 a2_1, .int .i64 a2_2] 59 (0, 0)) (by (with_reducible repeat (first | refine blk_drewN ?_ _ | refine blk_drew ?_ | refine blk_alloc ?_ _)); exact BK194.out) k_ hk⟩))
      (case aO => exact (by (with_reducible repeat (first | apply Kd.R_alloc | apply Kd.R_drewN | apply Kd.R_drew)); exact HO210.out))
      (case aS => exact (below_size (by repeat (first | (with_reducible first | exact HB.out | apply below_alloc | apply pw_below_drewN | apply below_drew1 | refine below_set ?_ GE194.out) | exact HB.out))))
      (case aL => have := LMc10.out; omega)
      intro v216 w23 ho hb hg hat
      rw [← Ny215.out] at ho
      have n0_ := Aside0.mk (blk_grown (g := gb194) (o := .cells #[.int .i64 a2_0, .int .i64 a2_1, .int .i64 a2_2] 59 (0, 0)) (by (with_reducible repeat (first | refine blk_drewN ?_ _ | refine blk_drew ?_ | refine blk_alloc ?_ _)); exact BK194.out) hg (Kd.R_away HO210.out (fun _ hk => hk.2)))
      have n1_ := Aside0.mk (Kd.R_after (ok := (fun k_ => k_ ≠ gb194)) (by (with_reducible repeat (first | apply Kd.R_alloc | apply Kd.R_drewN | apply Kd.R_drew)); exact HO207.out) hg hat)
      have n2_ := Aside0.mk (hb)
      have n3_ := Aside0.mk (ho)
      clear BK194
      clear HO207
      clear HB
      clear HO210
      have BK194 := n0_
      have HO207 := n1_
      have HB := n2_
      have HO217 := n3_
      clear n0_ n1_ n2_ n3_
      clear ho hb hg hat
      refine hK.out _ _ ⟨(blk_cell BK194.out 0).trans rfl, (blk_cell BK194.out 1).trans rfl, (blk_cell BK194.out 2).trans rfl⟩ (fun hHeld => ?_)
      clear hK K
      refine norm_ (a' := ?_) ?_ ?_
      rotate_left
      ·show Act.put _ (some 18) _ = _
       simp only [Act.put, List.setIfInBounds_toArray, List.set_cons_zero, List.set_cons_succ, i64_w, i32_w]
       rfl
      refine pure_ (i := 12) (N := some 6) (v := ?_) (a' := ?_) #[true, true, true, true, true, true, true, true, true, true, true, true, true] rfl rfl (any_of HT_.out (by kernel_rfl)) (fun _ _ _ h => h) (Or.inl ⟨by rfl, ?_⟩) ?_ ?_
      rotate_left
      ·intro w'
       go_simp
       with_reducible rfl
      rotate_left
      ·simp only [Act.put, List.setIfInBounds_toArray, List.set_cons_zero, List.set_cons_succ, i64_w, i32_w]
       rfl
      refine done_ (done_of HT_.out (by kernel_rfl)) ?_
      try go_wp2
      go_ret
      exact ⟨_, by first | rfl | (simp [errW_none, errW_some] <;> rfl) | (simp [*, errW_none, errW_some] <;> rfl), by (with_reducible repeat (first | apply Kd.R_alloc | apply Kd.R_drewN | apply Kd.R_drew)); exact Kd.R_mono HO217.out (fun _ hk => trivial), by repeat (first | (with_reducible first | exact HB.out | apply below_alloc | apply pw_below_drewN | apply below_drew1 | refine below_set ?_ GE194.out) | exact HB.out)⟩
     ·rw [if_neg c10] at H
      exact absurd H (by simp)
    ·rw [if_neg c7] at H
     exact absurd H (by simp)
   ·rw [if_neg c6] at H
    exact absurd H (by simp)
  ·rw [if_neg c5] at H
   exact absurd H (by simp)
 ·rw [if_neg c4] at H
  exact absurd H (by simp)

end Go.Proofs.Ytpddppipjlagfaa.Pr
