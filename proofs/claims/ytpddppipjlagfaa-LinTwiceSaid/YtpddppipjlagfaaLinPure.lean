/- Orders of deeds: which orders fit; what the small functions answer. No statement is proved here. -/
import Derived.Test.YtpddppipjlagfaaModelLaw1
import Derived.Test.YtpddppipjlagfaaPrx22
import Derived.Test.YtpddppipjlagfaaPrx24
import Derived.Test.YtpddppipjlagfaaPrx28
namespace Go.Proofs.Ytpddppipjlagfaa.Pure
open Go.RowKit Go.Proofs.Ytpddppipjlagfaa.Pr Go.Proofs.YtpddppipjlagfaaW.PrintWords Go.Proofs.YtpddppipjlagfaaW.PrintLast Go.Proofs.YtpddppipjlagfaaW.PrintMore Go.Proofs.Ytpddppipjlagfaa
set_option linter.unusedVariables false
set_option linter.unusedSimpArgs false
abbrev Oq := S40
/-- The deed of a place. -/
def opL (l : List Oq) (i : Int) : Oq := rd_T40 l i
def endB (x : Oq) : Bool := x.f2 != -1
/-- Must x stand ahead of y? -/
def ahB (x y : Oq) : Bool := endB x && decide (x.f2 < y.f1)
def badB (x : Oq) : Bool := decide (x.f1 < 0) || (decide (2147483648 < x.f1) || (decide (x.f2 ≠ -1) && (decide (x.f2 < x.f1) || decide (2147483648 < x.f2))))
def mayB (l : List Oq) : Bool := !l.any badB
def inB (l : List Oq) (i : Int) : Bool := decide (0 ≤ i) && decide (i < l.length)
def placesB (l : List Oq) (o : List Int) : Bool := o.all (inB l) && decide o.Nodup
def fullB (l : List Oq) (o : List Int) : Bool := (List.range l.length).all fun i => !endB (opL l (i : Int)) || decide ((i : Int) ∈ o)

theorem ahead_is (x y : Oq) : lin_ahead.f x.f0.f0 x.f0.f1 x.f0.f2 x.f0.f3 x.f1 x.f2 y.f0.f0 y.f0.f1 y.f0.f2 y.f0.f3 y.f1 y.f2 = some (ahB x y) := by
  unfold lin_ahead.f lin_ended.f ahB endB
  rw [Option.bind_some]
  cases h : (x.f2 != -1)
  · rfl
  · rfl
theorem rahead_is (x y : Oq) : rickyardref26_ahead.f x.f0.f0 x.f0.f1 x.f0.f2 x.f0.f3 x.f1 x.f2 y.f0.f0 y.f0.f1 y.f0.f2 y.f0.f3 y.f1 y.f2 = some (ahB x y) := by
  unfold rickyardref26_ahead.f ahB endB
  by_cases c : x.f2 = -1
  · rw [if_pos c]; simp [c]
  · rw [if_neg c]; simp [c]
theorem mayl_is (l : List Oq) (hl : l.length ≤ 1000) : lin_May.f l = some (mayB l) := by
  unfold lin_May.f api_Op_31_32.f
  rw [if_pos (by omega), Option.bind_some]
  rfl
theorem rdi_mid (pre : List Int) (x : Int) (suf : List Int) : rd (pre ++ x :: suf) (pre.length : Int) = x := by
  simp [rd, List.getD_eq_getElem?_getD]
theorem nxti (n : Nat) (h : n < 9223372036854775807) : wrap64 ((n : Int) + 1) = ((n + 1 : Nat) : Int) := by rw [w64 (by omega) (by omega)]; omega
theorem in_l0 (n : Int) (suf : List Int) : ∀ pre : List Int, (pre ++ suf).length < 9223372036854775807 → Ev (fun k => rickyardref26_In.l0 k (pre ++ suf) n (pre.length : Int)) (decide (n ∈ suf)) := by
  induction suf with
  | nil =>
    intro pre h
    refine Ev.step1 (fun k => ?_)
    simp only [rickyardref26_In.l0]
    rw [if_neg (by simp)]
    simp
  | cons x suf ih =>
    intro pre h
    have hp : pre.length < 9223372036854775807 := by simp at h; omega
    by_cases c : x = n
    · refine Ev.step1 (fun k => ?_)
      simp only [rickyardref26_In.l0]
      rw [if_pos (by simp; omega), if_pos (by omega), rdi_mid, if_pos c]
      simp [c]
    · have := ih (pre ++ [x]) (by simpa using h)
      rw [List.append_assoc, List.singleton_append] at this
      refine Ev.eq (Ev.step (fun k => ?_) this) (by simp [show ¬ n = x from fun e => c e.symm])
      simp only [rickyardref26_In.l0]
      rw [if_pos (by simp; omega), if_pos (by omega), rdi_mid, if_neg c, nxti _ hp]
      simp
theorem in_ev (l : List Int) (n : Int) (h : l.length < 9223372036854775807) : Ev (fun k => rickyardref26_In.f k l n) (decide (n ∈ l)) := by
  have := in_l0 n l [] (by simpa using h)
  exact Ev.congr (fun k => by rfl) this
theorem index_l0 (n : Int) (suf : List Int) : ∀ pre : List Int, (pre ++ suf).length < 9223372036854775807 → ∃ r : Int, Ev (fun k => slices_Index_int_int.l0 k (pre ++ suf) n ((pre ++ suf).length : Int) (pre.length : Int)) r ∧ decide (r ≥ 0) = decide (n ∈ suf) := by
  induction suf with
  | nil =>
    intro pre h
    refine ⟨-1, Ev.step1 (fun k => ?_), by simp⟩
    simp only [slices_Index_int_int.l0]
    rw [if_neg (by simp)]
  | cons x suf ih =>
    intro pre h
    have hp : pre.length < 9223372036854775807 := by simp at h; omega
    by_cases c : n = x
    · refine ⟨(pre.length : Int), Ev.step1 (fun k => ?_), by simp [c]⟩
      simp only [slices_Index_int_int.l0]
      rw [if_pos (by simp; omega), if_pos (by omega), if_pos (by simp; omega), rdi_mid, if_pos c]
    · obtain ⟨r, h1, h2⟩ := ih (pre ++ [x]) (by simpa using h)
      rw [List.append_assoc, List.singleton_append] at h1
      refine ⟨r, Ev.step (fun k => ?_) h1, by rw [h2]; simp [c]⟩
      simp only [slices_Index_int_int.l0]
      rw [if_pos (by simp; omega), if_pos (by omega), if_pos (by simp; omega), rdi_mid, if_neg c, nxti _ hp]
      simp
theorem contains_ev (l : List Int) (n : Int) (h : l.length < 9223372036854775807) : Ev (fun k => slices_Contains_int_int.f k l n) (decide (n ∈ l)) := by
  obtain ⟨r, ⟨K, hK⟩, h2⟩ := index_l0 n l [] (by simpa using h)
  refine ⟨K, fun k hk => ?_⟩
  have := hK k hk
  simp only [slices_Contains_int_int.f, slices_Index_int_int.f]
  simp only [List.nil_append, List.length_nil] at this
  rw [show ((0 : Nat) : Int) = 0 from rfl] at this
  rw [this, Option.bind_some, h2]
theorem opL_mid (pre : List Oq) (x : Oq) (suf : List Oq) : rd_T40 (pre ++ x :: suf) (pre.length : Int) = x := by
  simp [rd_T40, List.getD_eq_getElem?_getD]
theorem rmay_l0 (suf : List Oq) : ∀ pre : List Oq, (pre ++ suf).length < 9223372036854775807 → Ev (fun k => rickyardref26_MayOps.l0 k (pre ++ suf) (pre.length : Int)) (mayB suf) := by
  induction suf with
  | nil =>
    intro pre h
    refine Ev.step1 (fun k => ?_)
    simp only [rickyardref26_MayOps.l0]
    rw [if_neg (by simp)]
    rfl
  | cons x suf ih =>
    intro pre h
    have hp : pre.length < 9223372036854775807 := by simp at h; omega
    have := ih (pre ++ [x]) (by simpa using h)
    rw [List.append_assoc, List.singleton_append] at this
    have hb : mayB (x :: suf) = (!badB x && mayB suf) := by simp [mayB, Bool.not_or]
    cases hx : badB x with
    | true =>
      refine Ev.step1 (fun k => ?_)
      rw [hb, hx]
      unfold badB at hx
      simp only [rickyardref26_MayOps.l0]
      rw [if_pos (by simp; omega), if_pos (by omega), opL_mid]
      by_cases c1 : x.f1 < 0
      · rw [if_pos c1]; rfl
      · rw [if_neg c1]
        by_cases c2 : x.f1 > 2147483648
        · rw [if_pos c2]; rfl
        · rw [if_neg c2]
          by_cases c3 : x.f2 = -1
          · simp [c1, c3] at hx; omega
          · rw [if_neg c3]
            by_cases c4 : x.f2 < x.f1
            · rw [if_pos c4]; rfl
            · rw [if_neg c4, if_pos (by simp [c1, c3, c4] at hx; omega)]; rfl
    | false =>
      rw [hb, hx]
      refine Ev.eq (Ev.step (fun k => ?_) this) (by simp)
      unfold badB at hx
      simp only [rickyardref26_MayOps.l0]
      have c1 : ¬ x.f1 < 0 := fun h => by simp [h] at hx
      have c2 : ¬ x.f1 > 2147483648 := fun h => by simp [show 2147483648 < x.f1 from h] at hx
      rw [if_pos (by simp; omega), if_pos (by omega), opL_mid, if_neg c1, if_neg c2, nxti _ hp]
      by_cases c3 : x.f2 = -1
      · rw [if_pos c3, if_neg (by omega)]; simp
      · rw [if_neg c3]
        have c4 : ¬ x.f2 < x.f1 := fun h => by simp [h, c3] at hx
        have c5 : ¬ x.f2 > 2147483648 := fun h => by simp [show 2147483648 < x.f2 from h, c3] at hx
        rw [if_neg c4, if_neg c5]; simp
theorem rmay_ev (l : List Oq) (h : l.length < 9223372036854775807) : Ev (fun k => rickyardref26_MayOps.f k l) (mayB l) := by
  have := rmay_l0 l [] (by simpa using h)
  exact Ev.congr (fun k => by rfl) this
theorem full_l0 (o : List Int) (ho : o.length < 9223372036854775807) (suf : List Oq) : ∀ pre : List Oq, (pre ++ suf).length < 9223372036854775807 →
    Ev (fun k => lin_full.l0 k o (pre ++ suf) ((pre ++ suf).length : Int) (pre.length : Int)) ((List.range suf.length).all fun i => !endB (opL suf (i : Int)) || decide (((pre.length + i : Nat) : Int) ∈ o)) := by
  induction suf with
  | nil =>
    intro pre h
    refine Ev.step1 (fun k => ?_)
    simp only [lin_full.l0]
    rw [if_neg (by simp)]
    rfl
  | cons x suf ih =>
    intro pre h
    have hp : pre.length < 9223372036854775807 := by simp at h; omega
    have hs := ih (pre ++ [x]) (by simpa using h)
    rw [List.append_assoc, List.singleton_append] at hs
    have h0 : opL (x :: suf) ((0 : Nat) : Int) = x := opL_mid [] x suf
    have hsucc : ∀ i : Nat, opL (x :: suf) ((i + 1 : Nat) : Int) = opL suf (i : Int) := fun i => by
      simp [opL, rd_T40, List.getD_eq_getElem?_getD]
    have hb : ((List.range (x :: suf).length).all fun i => !endB (opL (x :: suf) (i : Int)) || decide (((pre.length + i : Nat) : Int) ∈ o))
        = ((!endB x || decide ((pre.length : Int) ∈ o)) && (List.range suf.length).all fun i => !endB (opL suf (i : Int)) || decide ((((pre ++ [x]).length + i : Nat) : Int) ∈ o)) := by
      rw [List.length_cons, List.range_succ_eq_map, List.all_cons, List.all_map, h0]
      congr 1
      congr 1
      funext i
      simp only [Function.comp, hsucc]
      congr 3
      simp; omega
    rw [hb]
    have nx := nxti pre.length hp
    have lx : (((pre ++ [x]).length : Nat) : Int) = ((pre.length + 1 : Nat) : Int) := by simp
    cases he : endB x with
    | false =>
      refine Ev.eq (Ev.step (fun k => ?_) hs) (by simp)
      simp only [lin_full.l0]
      rw [if_pos (by simp; omega), if_pos (by omega), if_pos (by simp; omega), opL_mid]
      unfold lin_ended.f
      rw [Option.bind_some]
      unfold endB at he
      rw [he, if_neg (by simp), nx, lx]
    | true =>
      obtain ⟨K, hK⟩ := contains_ev o (pre.length : Int) ho
      by_cases c : (pre.length : Int) ∈ o
      · obtain ⟨K2, hK2⟩ := hs
        refine ⟨K + K2 + 1, fun k hk => ?_⟩
        obtain ⟨k, rfl⟩ : ∃ j, k = j + 1 := ⟨k - 1, by omega⟩
        have e1 := hK k (by omega)
        have e2 := hK2 k (by omega)
        simp only [lin_full.l0]
        rw [if_pos (by simp; omega), if_pos (by omega), if_pos (by simp; omega), opL_mid]
        unfold lin_ended.f
        rw [Option.bind_some]
        unfold endB at he
        rw [he, if_pos rfl]
        dsimp only at e1 e2
        rw [e1, Option.bind_some, decide_eq_true c, if_pos rfl, nx, ← lx, e2]
        simp
      · refine ⟨K + 1, fun k hk => ?_⟩
        obtain ⟨k, rfl⟩ : ∃ j, k = j + 1 := ⟨k - 1, by omega⟩
        have e1 := hK k (by omega)
        simp only [lin_full.l0]
        rw [if_pos (by simp; omega), if_pos (by omega), if_pos (by simp; omega), opL_mid]
        unfold lin_ended.f
        rw [Option.bind_some]
        unfold endB at he
        rw [he, if_pos rfl]
        dsimp only at e1
        rw [e1, Option.bind_some, decide_eq_false c, if_neg (by simp)]
        simp
theorem full_ev (l : List Oq) (o : List Int) (h : l.length < 9223372036854775807) (ho : o.length < 9223372036854775807) : Ev (fun k => lin_full.f k l o) (fullB l o) := by
  have := full_l0 o ho l [] (by simpa using h)
  refine Ev.eq (Ev.congr (fun k => by rfl) this) ?_
  unfold fullB
  simp
/-- seen: which places an order has had. -/
theorem places_l0 (l : List Oq) (hl : l.length < 9223372036854775807) (suf : List Int) : ∀ (pre : List Int) (seen : List Bool), (pre ++ suf).length < 9223372036854775807 → seen.length = l.length → (∀ i : Nat, i < l.length → seen.getD i false = decide ((i : Int) ∈ pre)) →
    Ev (fun k => lin_places.l0 k l seen (pre ++ suf) ((pre ++ suf).length : Int) (pre.length : Int)) (suf.all (inB l) && (decide suf.Nodup && suf.all fun x => !decide (x ∈ pre))) := by
  induction suf with
  | nil =>
    intro pre seen h _ _
    refine Ev.step1 (fun k => ?_)
    simp only [lin_places.l0]
    rw [if_neg (by simp)]
    simp
  | cons x suf ih =>
    intro pre seen h hsl hs
    have hp : pre.length < 9223372036854775807 := by simp at h; omega
    have nx := nxti pre.length hp
    by_cases c1 : x < 0
    · refine Ev.step1 (fun k => ?_)
      simp only [lin_places.l0]
      rw [if_pos (by simp; omega), if_pos (by omega), if_pos (by simp; omega), rdi_mid, if_pos c1]
      have : inB l x = false := by unfold inB; rw [decide_eq_false (show ¬ 0 ≤ x by omega)]; rfl
      simp [this]
    · by_cases c2 : x ≥ (l.length : Int)
      · refine Ev.step1 (fun k => ?_)
        simp only [lin_places.l0]
        rw [if_pos (by simp; omega), if_pos (by omega), if_pos (by simp; omega), rdi_mid, if_neg c1, if_pos c2]
        have : inB l x = false := by unfold inB; rw [decide_eq_false (show ¬ x < (l.length : Int) by omega)]; simp
        simp [this]
      · have hin : inB l x = true := by unfold inB; rw [decide_eq_true (show 0 ≤ x by omega), decide_eq_true (show x < (l.length : Int) by omega)]; rfl
        obtain ⟨i, rfl⟩ := Int.eq_ofNat_of_zero_le (show 0 ≤ x by omega)
        have hi : i < l.length := by omega
        have hsi := hs i hi
        have hrd : rdOf false seen (i : Int) = decide ((i : Int) ∈ pre) := by rw [← hsi]; rfl
        by_cases c3 : (i : Int) ∈ pre
        · refine Ev.step1 (fun k => ?_)
          simp only [lin_places.l0]
          rw [if_pos (by simp; omega), if_pos (by omega), if_pos (by simp; omega), rdi_mid, if_neg c1, if_neg c2, if_pos (by omega), if_pos (by omega), hrd, decide_eq_true c3, if_pos rfl]
          simp [c3]
        · have hs2 := ih (pre ++ [(i : Int)]) (seen.set i true) (by simpa using h) (by simp [hsl]) (fun j hj => by
            have := hs j hj
            rw [List.getD_eq_getElem?_getD] at this ⊢
            by_cases e : i = j
            · subst e
              rw [List.getElem?_set_self (by omega)]
              simp
            · rw [List.getElem?_set_ne e, this]
              have : ¬ ((j : Int) = (i : Int)) := by omega
              simp [this])
          rw [List.append_assoc, List.singleton_append] at hs2
          refine Ev.eq (Ev.step (fun k => ?_) hs2) ?_
          · simp only [lin_places.l0]
            rw [if_pos (by simp; omega), if_pos (by omega), if_pos (by simp; omega), rdi_mid, if_neg c1, if_neg c2, if_pos (by omega), if_pos (by omega), hrd, decide_eq_false c3, if_neg (by simp), nx]
            have lx : (((pre ++ [(i : Int)]).length : Nat) : Int) = ((pre.length + 1 : Nat) : Int) := by simp
            rw [lx, Int.toNat_natCast]
          · rw [List.all_cons, hin, List.all_cons, decide_eq_false c3]
            rw [Bool.eq_iff_iff]
            simp only [List.nodup_cons, Bool.true_and, Bool.and_eq_true, decide_eq_true_eq, List.all_eq_true, Bool.not_eq_true', decide_eq_false_iff_not, Bool.not_false, List.mem_append, List.mem_singleton, not_or]
            constructor
            · rintro ⟨h1, h2, h3⟩
              exact ⟨h1, ⟨fun hm => (h3 _ hm).2 rfl, h2⟩, fun y hy => (h3 y hy).1⟩
            · rintro ⟨h1, ⟨h2, h3⟩, h4⟩
              exact ⟨h1, h3, fun y hy => ⟨h4 y hy, fun e => h2 (e ▸ hy)⟩⟩
theorem places_ev (l : List Oq) (o : List Int) (h : l.length ≤ 1000) (ho : o.length < 9223372036854775807) : Ev (fun k => lin_places.f k l o) (placesB l o) := by
  have := places_l0 l (by omega) o [] (List.replicate l.length false) (by simpa using ho) (by simp) (fun i hi => by simp [List.getD_eq_getElem?_getD, hi])
  refine Ev.eq (Ev.congr (fun k => ?_) this) ?_
  · unfold lin_places.f
    rw [if_pos (by omega), if_pos (by omega)]
    rfl
  · unfold placesB
    rw [show (o.all fun x => !decide (x ∈ ([] : List Int))) = true by simp, Bool.and_true]
end Go.Proofs.Ytpddppipjlagfaa.Pure
