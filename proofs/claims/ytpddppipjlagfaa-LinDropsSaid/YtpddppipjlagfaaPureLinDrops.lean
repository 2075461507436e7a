/- LinDrops in plain words: one more deed that could not be done and has not ended is left out; too many, or times that may not be, have no order. No row is proved here. -/
import Derived.Test.YtpddppipjlagfaaPrx42
import Derived.Test.YtpddppipjlagfaaLinOps
namespace Go.Proofs.Ytpddppipjlagfaa.Pure
set_option linter.unusedVariables false
set_option linter.unusedSimpArgs false
open Go.RowKit Go.Proofs.YtpddppipjlagfaaW.PrintWords Go.Proofs.YtpddppipjlagfaaW.PrintLast Go.Proofs.YtpddppipjlagfaaW.PrintMore Pr Go.Proofs.Ytpddppipjlagfaa.Dfs

theorem opL_app {l : List Oq} (s : List Oq) {i : Nat} (h : i < l.length) : opL (l ++ s) (i : Int) = opL l (i : Int) := by
  unfold opL rd_T40
  rw [Int.toNat_natCast, List.getD_eq_getElem?_getD, List.getD_eq_getElem?_getD, List.getElem?_append_left h]
theorem opL_last (l : List Oq) (x : Oq) : opL (l ++ [x]) (l.length : Int) = x := by
  unfold opL rd_T40
  rw [Int.toNat_natCast, List.getD_eq_getElem?_getD, List.getElem?_append_right (Nat.le_refl _), Nat.sub_self]
  rfl
theorem ahF_congr {l l' : List Oq} : ∀ o : List Int, (∀ x ∈ o, opL l x = opL l' x) → ahF l o = ahF l' o
  | [], _ => rfl
  | x :: o, h => by
    have ih := ahF_congr o (fun y hy => h y (List.mem_cons_of_mem _ hy))
    have hx := h x List.mem_cons_self
    unfold ahF
    rw [ih, hx]
    congr 1
    rw [Bool.eq_iff_iff, List.all_eq_true, List.all_eq_true]
    constructor
    · intro a y hy
      rw [← h y (List.mem_cons_of_mem _ hy)]
      exact a y hy
    · intro a y hy
      rw [h y (List.mem_cons_of_mem _ hy)]
      exact a y hy
theorem map_opL {l l' : List Oq} {P : List Nat} (h : ∀ p ∈ P, opL l (p : Int) = opL l' (p : Int)) : P.map (fun (p : Nat) => (opL l (p : Int)).f0) = P.map (fun (p : Nat) => (opL l' (p : Int)).f0) := List.map_congr_left (fun p hp => by rw [h p hp])
theorem free1_no {m : Int} {q : List Lv} (h : rtL m q) : (accR m q ⟨2, 0, 1, 0⟩).2.2 = false := by
  unfold accR
  rw [if_neg (by simp), if_neg (by simp), if_neg (by simp), if_pos ⟨rfl, rfl⟩]
  dsimp only
  unfold freeR
  cases e : findL 1 q with
  | none => rfl
  | some x =>
    obtain ⟨h1, h2⟩ := findL_mem e
    have := (rtL_lie h h1).1.2.2.1
    omega
theorem acc_drop {m : Int} (hm : mOk m) (A S : List De) : (accsL m [] (A ++ ⟨2, 0, 1, 0⟩ :: S)).2.2 = false := by
  cases e : (accsL m [] (A ++ ⟨2, 0, 1, 0⟩ :: S)).2.2 with
  | false => rfl
  | true =>
    exfalso
    have h1 : (accsL m [] ((A ++ [⟨2, 0, 1, 0⟩]) ++ S)).2.2 = true := by rw [List.append_assoc]; exact e
    have h2 := accs_pre h1
    rw [accs_snoc, Bool.and_eq_true] at h2
    have h3 := (accs_rt hm A [] trivial).1
    rw [free1_no h3] at h2
    cases h2.2
section
variable {m : Int} {l : List Oq} {x : Oq}
theorem drop_lt (hm : mOk m) (hx : x.f0 = ⟨2, 0, 1, 0⟩) {P : List Nat} (h : FN m (l ++ [x]) P) : ∀ p ∈ P, p < l.length := fun p hp => by
  have h1 := FN_lt h p hp
  rw [List.length_append] at h1
  have h1 : p < l.length + 1 := h1
  by_cases c : p = l.length
  · exfalso
    subst c
    obtain ⟨A, S, rfl⟩ := List.append_of_mem hp
    have h2 := FN_acc h
    rw [List.map_append, List.map_cons, opL_last, hx, acc_drop hm] at h2
    cases h2
  · omega
theorem may_snoc (hb : badB x = false) : mayB (l ++ [x]) = mayB l := by
  unfold mayB
  rw [List.any_append]
  simp [hb]
theorem FN_drop (hm : mOk m) (hx : x.f0 = ⟨2, 0, 1, 0⟩) (hb : badB x = false) (he : x.f2 = -1) (P : List Nat) : FN m (l ++ [x]) P ↔ FN m l P := by
  constructor
  · intro h
    have hlt := drop_lt hm hx h
    have hop : ∀ p ∈ P, opL (l ++ [x]) (p : Int) = opL l (p : Int) := fun p hp => opL_app [x] (hlt p hp)
    have h1 := (fits_iff (upI P)).1 h
    refine FN_mk ((may_snoc hb).symm.trans h1.1) (FN_nodup h) hlt (fun i hi hi2 => FN_full h i (by rw [List.length_append]; omega) (by rw [opL_app [x] hi]; exact hi2)) ?_ ?_
    · rw [← h1.2.2.2.1]
      exact (ahF_congr (upI P) (fun y hy => by
        unfold upI at hy
        obtain ⟨p, hp, rfl⟩ := List.mem_map.1 hy
        exact hop p hp)).symm
    · rw [← map_opL hop]
      exact FN_acc h
  · intro h
    have hlt := FN_lt h
    have hop : ∀ p ∈ P, opL (l ++ [x]) (p : Int) = opL l (p : Int) := fun p hp => opL_app [x] (hlt p hp)
    have h1 := (fits_iff (upI P)).1 h
    refine FN_mk ((may_snoc hb).trans h1.1) (FN_nodup h) (fun p hp => by have := hlt p hp; rw [List.length_append]; omega) (fun i hi hi2 => ?_) ?_ ?_
    · rw [List.length_append] at hi
      have hi : i < l.length + 1 := hi
      by_cases c : i = l.length
      · subst c
        rw [opL_last] at hi2
        exact absurd he hi2
      · have hi : i < l.length := by omega
        rw [opL_app [x] hi] at hi2
        exact FN_full h i hi hi2
    · rw [← h1.2.2.2.1]
      exact ahF_congr (upI P) (fun y hy => by
        unfold upI at hy
        obtain ⟨p, hp, rfl⟩ := List.mem_map.1 hy
        exact hop p hp)
    · rw [map_opL hop]
      exact FN_acc h
theorem ord_drop (hm : mOk m) (hx : x.f0 = ⟨2, 0, 1, 0⟩) (hb : badB x = false) (he : x.f2 = -1) (hl : l.length ≤ 7) : ordF m (l ++ [x]) = ordF m l := by
  apply ordF_is
  have h := ordF_spec m l
  have e : FN m (l ++ [x]) = FN m l := funext fun P => propext (FN_drop hm hx hb he P)
  unfold ordP at h ⊢
  rw [may_snoc hb, e]
  by_cases c : mayB l = true
  · rw [if_pos ⟨c, by omega⟩] at h
    rw [if_pos ⟨c, by rw [List.length_append]; simp; omega⟩]
    exact h
  · rw [if_neg (fun h => c h.1)] at h
    rw [if_neg (fun h => c h.1)]
    exact h
end
/-- Those that are refused, one behind the other. -/
def manyO : Nat → List Oq
  | 0 => []
  | n + 1 => manyO n ++ [⟨⟨1, 0, 0, 1⟩, (n : Int), (n : Int)⟩]
theorem manyO_len : ∀ n, (manyO n).length = n
  | 0 => rfl
  | n + 1 => by rw [manyO, List.length_append, manyO_len n]; rfl
theorem acc_many (m : Int) : ∀ n, (accsL m [] (List.replicate n ⟨1, 0, 0, 1⟩)).2.2 = true
  | 0 => rfl
  | n + 1 => by
    rw [List.replicate_succ, accsL, show accR m [] ⟨1, 0, 0, 1⟩ = (m, [], true) from rfl, if_pos rfl]
    exact acc_many m n
theorem ord_few (m : Int) : (ordF m ((manyO 9).drop 1)).isSome = true := by
  have hm : mayB ((manyO 9).drop 1) = true := by decide
  have hF : FN m ((manyO 9).drop 1) [0, 1, 2, 3, 4, 5, 6, 7] := FN_mk hm (by decide) (by decide) (fun i hi _ => by
      have hi : i < 8 := hi
      simp
      omega) (by decide) (acc_many m 8)
  obtain ⟨R, h, _⟩ := ordF_some hm (by decide) hF
  rw [h]
  rfl
theorem ord_far (m : Int) : ordF m (manyO 9) = none := ordF_bad (fun h => absurd h.2 (by decide))
theorem may_bad (l : List Oq) {x : Oq} (h : badB x = true) : mayB (l ++ [x]) = false := by
  unfold mayB
  rw [List.any_append]
  simp [h]
theorem same_self (l : List Int) (hl : l.length ≤ 1000) (k : Nat) (hk : l.length < k) : Pr.rickyardref1_SameInts.f k l l = some true := by
  unfold Pr.rickyardref1_SameInts.f
  rw [if_pos rfl]
  exact sameInts_from l hl l.length k 0 (by omega) (by omega) (by omega) hk
section
variable {m a : Int} {L : List Oq} (hm : 0 ≤ m ∧ m ≤ 2048) (ha : 0 ≤ a ∧ a ≤ 255) (hL : L.length ≤ 7)
include hm ha hL
theorem drops_end (k : Nat) (hk : 20 ≤ k) : rickyardlaw27_LinDrops.l0 (k + 1) a m L (upI ((ordF m L).getD [])) (ordF m L).isSome (upI ((ordF m L).getD [])) (ordF m L).isSome (manyO 9) ((9 : Nat) : Int) = some true := by
  have hu : (upI ((ordF m L).getD [])).length ≤ 8 := by
    rw [upI_len]
    cases e : ordF m L with
    | none => simp
    | some R => have := FN_len (ordF_fits e).2.2; simp; omega
  have w1 : wrap64 a = a := w64 (by omega) (by omega)
  have w2 : wrap64 (a + 1) = a + 1 := w64 (by omega) (by omega)
  have hbad : mayB (L ++ [(⟨⟨0, 0, 0, 0⟩, a + 1, a⟩ : Oq)]) = false := may_bad L (by
    unfold badB
    simp
    omega)
  have h9 : (manyO 9).length = 9 := rfl
  have hlen : (L ++ [(⟨⟨0, 0, 0, 0⟩, a + 1, a⟩ : Oq)]).length ≤ 8 := by simp; omega
  have hfew := ord_few m
  rw [rickyardlaw27_LinDrops.l0, if_neg (by omega)]
  rw [order_none hm.1 (by omega) (by omega) (ord_far m), Option.bind_some, if_pos (by rw [h9]; omega), order_f hm.1 (by omega) (by decide), Option.bind_some]
  simp only [Option.bind_some, w1, w2, List.nil_append]
  rw [if_pos (by simp; omega), if_pos (by omega), order_none hm.1 (by omega) (by omega) (ordF_bad (fun h => by rw [hbad] at h; cases h.1)), Option.bind_some, if_pos (by simp), same_self _ (by omega) k (by omega), Option.bind_some, if_pos rfl, if_neg (by simp), if_pos hfew, if_neg (by simp), mayl_is _ (by omega), hbad, Option.bind_some, if_neg (by simp)]
  rfl
theorem drops_loop (k : Nat) (hk : 20 ≤ k) : ∀ (d i : Nat), i + d = 9 → rickyardlaw27_LinDrops.l0 (k + d + 1) a m L (upI ((ordF m L).getD [])) (ordF m L).isSome (upI ((ordF m L).getD [])) (ordF m L).isSome (manyO i) (i : Int) = some true := by
  intro d
  induction d with
  | zero =>
    intro i h
    obtain rfl : i = 9 := by omega
    exact drops_end hm ha hL k hk
  | succ d ih =>
    intro i h
    have w1 : wrap64 ((i : Int) + 1) = ((i + 1 : Nat) : Int) := by rw [w64 (by omega) (by omega)]; omega
    rw [show k + (d + 1) + 1 = (k + d + 1) + 1 by omega, rickyardlaw27_LinDrops.l0, if_pos (by omega), if_pos (by rw [manyO_len]; omega), w1]
    exact ih (i + 1) (by omega)
theorem drops_j (k : Nat) (hk : 20 ≤ k) : rickyardlaw27_LinDrops.j0 (k + 11) a m L = some true := by
  have w1 : wrap64 a = a := w64 (by omega) (by omega)
  have hx : badB ⟨⟨2, 0, 1, 0⟩, a, -1⟩ = false := by
    unfold badB
    rw [decide_eq_false (by dsimp only; omega), decide_eq_false (by dsimp only; omega), decide_eq_false (by dsimp only; omega)]
    rfl
  rw [rickyardlaw27_LinDrops.j0, order_f hm.1 (by omega) (by omega), Option.bind_some]
  simp only [Option.bind_some, w1, List.nil_append]
  rw [if_pos (by simp; omega), if_pos (by omega), order_f hm.1 (by omega) (by simp; omega), Option.bind_some, ord_drop (m := m) (l := L) (x := ⟨⟨2, 0, 1, 0⟩, a, -1⟩) ⟨hm.1, by omega⟩ rfl hx rfl hL]
  exact drops_loop hm ha hL k hk 9 0 rfl
end
theorem LinDrops : rickyardlaw27_LinDrops.Pure := by
  intro a0 l1 l2 a3 h0 h1 h2 h3 h4 h5 h6 h7
  obtain ⟨m, hm, hm0, hm1⟩ := m_of h0
  have u3 := u8_of h7
  refine ⟨31, ?_⟩
  unfold rickyardlaw27_LinDrops.f
  rw [hm, ops_f m l1 l2 ⟨hm0, by omega⟩ (by omega) h3 h6 31, Option.bind_some]
  by_cases c : ((opsF m l1 l2).length : Int) ≥ 8
  · rw [if_pos c, if_pos (by omega)]
    exact drops_j ⟨hm0, hm1⟩ ⟨u3.1, u3.2⟩ (by rw [List.length_take]; show min 7 _ ≤ 7; omega) 20 (by omega)
  · rw [if_neg c]
    exact drops_j ⟨hm0, hm1⟩ ⟨u3.1, u3.2⟩ (by omega) 20 (by omega)
end Go.Proofs.Ytpddppipjlagfaa.Pure
