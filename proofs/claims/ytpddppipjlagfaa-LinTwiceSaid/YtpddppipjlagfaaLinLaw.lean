/- Several texts in one: LinLaw, LinSearch, LinPost, OpRows. -/
import Derived.Test.YtpddppipjlagfaaLinFits
import Derived.Test.YtpddppipjlagfaaPrx26
import Derived.Test.YtpddppipjlagfaaLinDfs
import Derived.Deep.LoopGhost
import Derived.Test.YtpddppipjlagfaaRowk
/- Orders that fit: plain law. No program in it. No statement is proved here. -/
namespace Go.Proofs.Ytpddppipjlagfaa
set_option linter.unusedVariables false
set_option linter.unusedSimpArgs false
open Go.RowKit Go.Proofs.YtpddppipjlagfaaW.PrintWords Go.Proofs.YtpddppipjlagfaaW.PrintLast Go.Proofs.YtpddppipjlagfaaW.PrintMore Pr Go.Proofs.Ytpddppipjlagfaa.Pure

theorem placesB_iff (l : List Oq) (o : List Int) : placesB l o = true ↔ (∀ x ∈ o, inB l x = true) ∧ o.Nodup := by
  unfold placesB
  simp [List.all_eq_true]
theorem placesB_pre {l : List Oq} {P S : List Int} (h : placesB l (P ++ S) = true) : placesB l P = true := by
  rw [placesB_iff] at h ⊢
  exact ⟨fun x hx => h.1 x (by simp [hx]), (List.nodup_append.1 h.2).1⟩
theorem placesB_snoc (l : List Oq) (P : List Int) (x : Int) : placesB l (P ++ [x]) = (placesB l P && (inB l x && !decide (x ∈ P))) := by
  rw [Bool.eq_iff_iff, Bool.and_eq_true, Bool.and_eq_true, placesB_iff, placesB_iff]
  simp only [List.mem_append, List.mem_singleton, Bool.not_eq_true', decide_eq_false_iff_not, List.nodup_append]
  constructor
  · rintro ⟨h1, h2, h3, h4⟩
    exact ⟨⟨fun y hy => h1 y (.inl hy), h2⟩, h1 x (.inr rfl), fun hx => h4 x hx x (by simp) rfl⟩
  · rintro ⟨⟨h1, h2⟩, h3, h4⟩
    refine ⟨?_, h2, by simp, ?_⟩
    · rintro y (hy | rfl)
      · exact h1 y hy
      · exact h3
    · rintro a ha b hb rfl
      exact h4 (hb ▸ ha)
theorem ahF_snoc (l : List Oq) (P : List Int) (x : Int) : ahF l (P ++ [x]) = (ahF l P && P.all fun p => !ahB (opL l x) (opL l p)) := by
  induction P with
  | nil => simp [ahF]
  | cons p P ih =>
    rw [List.cons_append, ahF, ih, ahF, List.all_append]
    simp only [List.all_cons, List.all_nil, Bool.and_true]
    cases (P.all fun y => !ahB (opL l y) (opL l p)) <;> cases ahB (opL l x) (opL l p) <;> cases ahF l P <;> simp
theorem ahF_pre {l : List Oq} (P S : List Int) (h : ahF l (P ++ S) = true) : ahF l P = true := by
  induction P with
  | nil => rfl
  | cons p P ih =>
    rw [List.cons_append, ahF, List.all_append] at h
    simp only [Bool.and_eq_true] at h
    rw [ahF, h.1.1, ih h.2]; rfl
theorem deedsF_app (l : List Oq) (P S : List Int) : deedsF l (P ++ S) = deedsF l P ++ deedsF l S := by simp [deedsF]
theorem deedsF_len (l : List Oq) (P : List Int) : (deedsF l P).length = P.length := by simp [deedsF]
theorem accs_pre {m : Int} {P S : List De} (h : (accsL m [] (P ++ S)).2.2 = true) : (accsL m [] P).2.2 = true := by
  by_cases c : (accsL m [] P).2.2 = true
  · exact c
  · have := (accs_app m P S []).2 (by simpa using c)
    rw [this] at h
    exact h
theorem accs_snoc {m : Int} (P : List De) (d : De) : (accsL m [] (P ++ [d])).2.2 = ((accsL m [] P).2.2 && (accR m (accsL m [] P).1 d).2.2) := by
  cases c : (accsL m [] P).2.2 with
  | true =>
    rw [((accs_app m P [d] []).1 c).2]
    rw [accsL]
    split
    · next h => rw [h]; rfl
    · next h => simp only [Bool.true_and]; simpa using h
  | false => rw [(accs_app m P [d] []).2 c, c]; rfl
theorem accs_snoc1 {m : Int} (P : List De) (d : De) (h : (accsL m [] P).2.2 = true) (h2 : (accR m (accsL m [] P).1 d).2.2 = true) : (accsL m [] (P ++ [d])).1 = (accR m (accsL m [] P).1 d).2.1 := by
  rw [((accs_app m P [d] []).1 h).2]
  dsimp only
  rw [accsL, if_pos h2]
  rfl
/-- Does a place go behind an order, as the document has it? -/
def mayN (m : Int) (l : List Oq) (P : List Int) (y : Int) : Bool := !decide (y ∈ P) && ((P.all fun p => !ahB (opL l y) (opL l p)) && (accsL m [] (deedsF l (P ++ [y]))).2.2)
/-- Does a place go behind an order, as the program has it? -/
def nxtN (m : Int) (l : List Oq) (P : List Int) (q : List Lv) (y : Int) : Bool := !decide (y ∈ P) && (((List.range l.length).all fun i => !(((i : Int) != y) && (ahB (opL l (i : Int)) (opL l y) && !decide ((i : Int) ∈ P)))) && (accR m q (opL l y).f0).2.2)
section
variable {m : Int} {l : List Oq}
theorem fits_iff (o : List Int) : fitsB m l o = true ↔ mayB l = true ∧ placesB l o = true ∧ fullB l o = true ∧ ahF l o = true ∧ (accsL m [] (deedsF l o)).2.2 = true := by
  unfold fitsB
  simp only [Bool.and_eq_true]
theorem fits_may {P S : List Int} {y : Int} (h : fitsB m l (P ++ y :: S) = true) : mayN m l P y = true := by
  rw [fits_iff] at h
  obtain ⟨-, h2, -, h4, h5⟩ := h
  rw [show P ++ y :: S = (P ++ [y]) ++ S by simp] at h2 h4 h5
  have h2 := placesB_pre h2
  have h4 := ahF_pre _ _ h4
  rw [deedsF_app] at h5
  have h5 := accs_pre h5
  rw [placesB_snoc] at h2
  rw [ahF_snoc] at h4
  simp only [Bool.and_eq_true] at h2 h4
  unfold mayN
  rw [h5, h2.2.2, h4.2]; rfl
theorem fits_nxt {P S : List Int} {y : Int} (h : fitsB m l (P ++ y :: S) = true) : nxtN m l P (accsL m [] (deedsF l P)).1 y = true := by
  rw [fits_iff] at h
  obtain ⟨-, h2, h3, h4, h5⟩ := h
  have h4' := h4
  rw [show P ++ y :: S = (P ++ [y]) ++ S by simp] at h2 h4 h5
  have h2 := placesB_pre h2
  have h4 := ahF_pre _ _ h4
  rw [deedsF_app] at h5
  have h5 := accs_pre h5
  rw [placesB_snoc] at h2
  simp only [Bool.and_eq_true] at h2
  rw [deedsF_app, show deedsF l [y] = [(opL l y).f0] from rfl, accs_snoc] at h5
  simp only [Bool.and_eq_true] at h5
  unfold nxtN
  rw [h5.2, h2.2.2, Bool.true_and, Bool.and_true, List.all_eq_true]
  intro i hi
  have hi := List.mem_range.1 hi
  rw [Bool.not_eq_true', Bool.eq_false_iff]
  intro hc
  simp only [Bool.and_eq_true, bne_iff_ne, ne_eq, Bool.not_eq_true', decide_eq_false_iff_not] at hc
  obtain ⟨c1, c2, c3⟩ := hc
  have h6 := List.all_eq_true.1 h3 i (List.mem_range.2 hi)
  have he : endB (opL l (i : Int)) = true := by unfold ahB at c2; simp only [Bool.and_eq_true] at c2; exact c2.1
  rw [he] at h6
  have h7 : (i : Int) ∈ P ++ y :: S := by simpa using h6
  simp only [List.mem_append, List.mem_cons] at h7
  rcases h7 with h7 | h7 | h7
  · exact c3 h7
  · exact c1 h7
  · have : ∀ (P : List Int), ahF l (P ++ y :: S) = true → ahF l (y :: S) = true := by
      intro P
      induction P with
      | nil => exact fun h => h
      | cons p P ih =>
        intro h
        rw [List.cons_append, ahF] at h
        simp only [Bool.and_eq_true] at h
        exact ih h.2
    have h8 := this P h4'
    rw [ahF] at h8
    simp only [Bool.and_eq_true] at h8
    have := List.all_eq_true.1 h8.1 _ h7
    rw [c2] at this
    exact absurd this (by simp)
/-- An order that a search has come to. -/
structure Good (m : Int) (l : List Oq) (P : List Int) : Prop where
  places : placesB l P = true
  ah : ahF l P = true
  acc : (accsL m [] (deedsF l P)).2.2 = true
  cl : ∀ p ∈ P, ∀ i : Nat, i < l.length → ahB (opL l (i : Int)) (opL l p) = true → (i : Int) ∈ P
theorem Good.nil (m : Int) (l : List Oq) : Good m l [] := ⟨rfl, rfl, rfl, fun p hp => by cases hp⟩
theorem may_at (h : mayB l = true) {y : Int} (hy : inB l y = true) : badB (opL l y) = false := by
  unfold mayB at h
  rw [Bool.not_eq_true'] at h
  have h2 := List.any_eq_false.1 h
  unfold inB at hy
  simp only [Bool.and_eq_true, decide_eq_true_eq] at hy
  have := h2 (opL l y) (by
    unfold opL rd_T40
    rw [List.getD_eq_getElem?_getD, List.getElem?_eq_getElem (by omega)]
    exact List.getElem_mem _)
  simpa using this
theorem not_self (h : mayB l = true) {y : Int} (hy : inB l y = true) : ahB (opL l y) (opL l y) = false := by
  have := may_at h hy
  unfold badB at this
  unfold ahB endB
  rw [Bool.eq_false_iff]
  intro hc
  simp only [Bool.and_eq_true, bne_iff_ne, ne_eq, decide_eq_true_eq] at hc
  simp [hc.1, hc.2] at this
theorem Good.snoc (hm : mayB l = true) {P : List Int} (h : Good m l P) {y : Int} (hy : inB l y = true) (hn : nxtN m l P (accsL m [] (deedsF l P)).1 y = true) :
    Good m l (P ++ [y]) := by
  unfold nxtN at hn
  simp only [Bool.and_eq_true] at hn
  obtain ⟨h1, h2, h3⟩ := hn
  have h1' : ¬ y ∈ P := by simpa using h1
  refine ⟨?_, ?_, ?_, ?_⟩
  · rw [placesB_snoc, h.places, hy, h1]; rfl
  · rw [ahF_snoc, h.ah, Bool.true_and, List.all_eq_true]
    intro p hp
    rw [Bool.not_eq_true', Bool.eq_false_iff]
    intro hc
    unfold inB at hy
    simp only [Bool.and_eq_true, decide_eq_true_eq] at hy
    obtain ⟨j, rfl⟩ := Int.eq_ofNat_of_zero_le hy.1
    exact h1' (h.cl p hp j (by omega) hc)
  · rw [deedsF_app, show deedsF l [y] = [(opL l y).f0] from rfl, accs_snoc, h.acc, h3]; rfl
  · intro p hp i hi hc
    rw [List.mem_append] at hp ⊢
    rcases hp with hp | hp
    · exact .inl (h.cl p hp i hi hc)
    · obtain rfl : p = y := by simpa using hp
      by_cases e : (i : Int) = p
      · exact .inr (by simp [e])
      · have := List.all_eq_true.1 h2 i (List.mem_range.2 hi)
        rw [hc] at this
        simp [e] at this
        exact .inl this
theorem Good.fits (hm : mayB l = true) {P : List Int} (h : Good m l P) : fitsB m l P = fullB l P := by
  unfold fitsB
  rw [hm, h.places, h.ah, h.acc]
  simp
end
end Go.Proofs.Ytpddppipjlagfaa

/- The search for the first order that fits: plain law. No program in it. No statement is proved here. -/
namespace Go.Proofs.Ytpddppipjlagfaa
set_option linter.unusedVariables false
set_option linter.unusedSimpArgs false
open Go.RowKit Go.Proofs.YtpddppipjlagfaaW.PrintWords Go.Proofs.YtpddppipjlagfaaW.PrintLast Go.Proofs.YtpddppipjlagfaaW.PrintMore Pr Go.Proofs.Ytpddppipjlagfaa.Pure Go.Proofs.Ytpddppipjlagfaa.Dfs

def upI (P : List Nat) : List Int := P.map fun (x : Nat) => (x : Int)
theorem upI_len (P : List Nat) : (upI P).length = P.length := by simp [upI]
theorem upI_app (P S : List Nat) : upI (P ++ S) = upI P ++ upI S := by simp [upI]
theorem upI_mem {P : List Nat} {x : Nat} : (x : Int) ∈ upI P ↔ x ∈ P := by
  unfold upI
  rw [List.mem_map]
  constructor
  · rintro ⟨y, h1, h2⟩
    have h3 : (y : Int) = (x : Int) := h2
    have : y = x := by omega
    exact this ▸ h1
  · intro h
    exact ⟨x, h, rfl⟩
def FN (m : Int) (l : List Oq) (P : List Nat) : Prop := fitsB m l (upI P) = true
section
variable {m : Int} {l : List Oq}
structure SI (m : Int) (l : List Oq) (P : List Nat) (f : Nat) : Prop where
  lf : ∀ Q, FN m l Q → left P f Q
  nf : ∀ k, k < P.length → ¬ FN m l (P.take k)
  n0 : 0 < f → ¬ FN m l P
  pl : placesB l (upI P) = true
  fl : f ≤ l.length
theorem SI.start (m : Int) (l : List Oq) : SI m l [] 0 := ⟨fun Q _ => left_start Q, fun k h => absurd h (by simp), fun h => absurd h (by simp), rfl, Nat.zero_le _⟩
theorem SI.lt {P : List Nat} {f : Nat} (h : SI m l P f) : ∀ p ∈ P, p < l.length := fun p hp => by
  have := (placesB_iff l (upI P)).1 h.pl
  have := this.1 p (upI_mem.2 hp)
  unfold inB at this
  simp at this
  omega
theorem SI.len {P : List Nat} {f : Nat} (h : SI m l P f) : P.length ≤ l.length := by
  have := places_len h.pl
  rwa [upI_len] at this
theorem SI.done {P : List Nat} {f : Nat} (h : SI m l P f) (hF : FN m l P) : IsOrd (FN m l) (some P) := by
  refine ⟨hF, fun Q hQ => ?_⟩
  by_cases c : 0 < f
  · exact absurd hF (h.n0 c)
  · have := h.lf Q hQ
    rwa [show f = 0 by omega] at this
theorem SI.push {P : List Nat} {f x : Nat} (h : SI m l P f) (hF : ¬ FN m l P) (hx : f ≤ x) (hx2 : x < l.length) (hnew : ¬ (x : Int) ∈ upI P) (hno : ∀ y, f ≤ y → y < x → ∀ S, ¬ FN m l (P ++ y :: S)) :
    SI m l (P ++ [x]) 0 := by
  refine ⟨fun Q hQ => left_push (h.lf Q hQ) hx (fun y S h1 h2 e => hno y h1 h2 S (e ▸ hQ)) (fun e => hF (e ▸ hQ)), fun k hk => ?_, fun h0 => absurd h0 (by simp), ?_, Nat.zero_le _⟩
  · rw [List.length_append, List.length_singleton] at hk
    by_cases c : k = P.length
    · subst c
      rw [List.take_left]
      exact hF
    · rw [List.take_append_of_le_length (by omega)]
      exact h.nf k (by omega)
  · rw [upI_app, show upI [x] = [(x : Int)] from rfl, placesB_snoc, h.pl]
    have : inB l (x : Int) = true := by unfold inB; simp; omega
    rw [this]
    simpa using hnew
theorem SI.pop {P : List Nat} {f x : Nat} (h : SI m l (P ++ [x]) f) (hF : ¬ FN m l (P ++ [x])) (hno : ∀ y, f ≤ y → ∀ S, ¬ FN m l ((P ++ [x]) ++ y :: S)) : SI m l P (x + 1) := by
  have hP : ¬ FN m l P := by
    have := h.nf P.length (by simp)
    rwa [List.take_left] at this
  refine ⟨fun Q hQ => left_pop (h.lf Q hQ) (fun y S h1 e => hno y h1 S (e ▸ hQ)) (fun _ e => hF (e ▸ hQ)), fun k hk => ?_, fun _ => hP, ?_, ?_⟩
  · have := h.nf k (by simp; omega)
    rwa [List.take_append_of_le_length (by omega)] at this
  · have := h.pl
    rw [upI_app] at this
    exact placesB_pre this
  · have := h.lt x (by simp)
    omega
theorem SI.none {f : Nat} (h : SI m l [] f) (hF : ¬ FN m l []) (hno : ∀ y, f ≤ y → ∀ S, ¬ FN m l ([] ++ y :: S)) : IsOrd (FN m l) none :=
  fun Q hQ => left_end (h.lf Q hQ) (fun y S h1 e => hno y h1 S (by rw [List.nil_append, ← e]; exact hQ)) (fun _ e => hF (e ▸ hQ))
theorem no_out {P : List Nat} {y : Nat} (hy : l.length ≤ y) (S : List Nat) : ¬ FN m l (P ++ y :: S) := fun h => by
  unfold FN at h
  rw [fits_iff] at h
  have := (placesB_iff _ _).1 h.2.1
  have := this.1 (y : Int) (upI_mem.2 (by simp))
  unfold inB at this
  simp at this
  omega
theorem no_nxt {P : List Nat} {y : Nat} (hn : nxtN m l (upI P) (accsL m [] (deedsF l (upI P))).1 (y : Int) = false) (S : List Nat) : ¬ FN m l (P ++ y :: S) := fun h => by
  unfold FN at h
  rw [upI_app, show upI (y :: S) = (y : Int) :: upI S from rfl] at h
  have := fits_nxt h
  rw [hn] at this
  cases this
theorem no_may {P : List Nat} {y : Nat} (hn : mayN m l (upI P) (y : Int) = false) (S : List Nat) : ¬ FN m l (P ++ y :: S) := fun h => by
  unfold FN at h
  rw [upI_app, show upI (y :: S) = (y : Int) :: upI S from rfl] at h
  have := fits_may h
  rw [hn] at this
  cases this
theorem nxt_new {P : List Int} {q : List Lv} {y : Int} (h : nxtN m l P q y = true) : ¬ y ∈ P := by
  unfold nxtN at h
  simp only [Bool.and_eq_true] at h
  simpa using h.1
theorem may_new {P : List Int} {y : Int} (h : mayN m l P y = true) : ¬ y ∈ P := by
  unfold mayN at h
  simp only [Bool.and_eq_true] at h
  simpa using h.1
/-- The answer that Order is to give. -/
def ordP (m : Int) (l : List Oq) (r : Option (List Nat)) : Prop := if mayB l = true ∧ l.length ≤ 8 then IsOrd (FN m l) r else r = none
theorem ordP_uniq {r s : Option (List Nat)} (h : ordP m l r) (h' : ordP m l s) : r = s := by
  unfold ordP at h h'
  split at h
  · next c =>
    rw [if_pos c] at h'
    exact ord_uniq h h'
  · next c =>
    rw [if_neg c] at h'
    rw [h, h']
theorem mayB_of {r : Option (List Nat)} (h : ordP m l r) {P : List Nat} (hr : r = some P) : mayB l = true ∧ l.length ≤ 8 ∧ FN m l P := by
  unfold ordP at h
  split at h
  · next c => subst hr; exact ⟨c.1, c.2, h.1⟩
  · subst hr; cases h
end
end Go.Proofs.Ytpddppipjlagfaa

/- What an order's search answers: shared words. No statement is proved here. -/
namespace Go.Proofs.Ytpddppipjlagfaa
set_option linter.unusedVariables false
set_option linter.unusedSimpArgs false
open Go.RowKit Go.Proofs.YtpddppipjlagfaaW.PrintWords Go.Proofs.YtpddppipjlagfaaW.PrintLast Go.Proofs.YtpddppipjlagfaaW.PrintMore Pr Go.Proofs.Ytpddppipjlagfaa.Pure Go.Proofs.Ytpddppipjlagfaa.Dfs

def OrdPost (m : Int) (l : List Oq) (w : World) (e : Ending) (w' : World) : Prop := ∃ r : Option (List Nat), ordP m l r ∧ ∃ v, e = .returned (.tuple #[v, .bool r.isSome]) ∧ Kd.R (Kd.int .i64) 3 w' w.heap.size (fun _ => True) v (upI (r.getD [])) ∧ Below w.heap.size w w'
theorem k_int_mkM (w : World) (base : Nat) (ok : Nat → Prop) (x : Int) : (Kd.int .i64).M w base ok x [.int .i64 x] := rfl
theorem own_nil (W : World) {b : Nat} (h : b ≤ W.heap.size) : Kd.R (Kd.int .i64) 3 (W.alloc (.cells #[] 3)) b (fun _ => True) (.slice (some ⟨W.heap.size, 0, none⟩) 0 0) ([] : List Int) :=
  ⟨fun _ _ => trivial, [], World.ownsRow_made W #[] 0 h (by simp [maxLen]) (by rfl), Reps.none _ _⟩
end Go.Proofs.Ytpddppipjlagfaa

/- Rows of api.Op as rows of cells. No statement is proved here. -/
namespace Go.Proofs.Ytpddppipjlagfaa
set_option linter.unusedVariables false
set_option linter.unusedSimpArgs false
open Go.RowKit Go.Proofs.YtpddppipjlagfaaW.PrintWords Go.Proofs.YtpddppipjlagfaaW.PrintLast Go.Proofs.YtpddppipjlagfaaW.PrintMore Pr

/-- The cells of a list. -/
def encs_op : List S40 → List Value
  | [] => []
  | x :: l => .int .i64 x.f0.f0 :: .int .i64 x.f0.f1 :: .int .i64 x.f0.f2 :: .int .i64 x.f0.f3 :: .int .i64 x.f1 :: .int .i64 x.f2 :: encs_op l
theorem encs_len_op (l : List S40) : (encs_op l).length = l.length * 6 := by
  induction l with
  | nil => rfl
  | cons x l ih => simp only [encs_op, List.length_cons, ih]; omega
theorem encs_append_op (a b : List S40) : encs_op (a ++ b) = encs_op a ++ encs_op b := by
  induction a with
  | nil => rfl
  | cons x l ih => simp [encs_op, ih]
theorem encs_take_op (l : List S40) (i : Nat) : (encs_op l).take (i * 6) = encs_op (l.take i) := by
  induction l generalizing i with
  | nil => simp [encs_op]
  | cons x l ih =>
    cases i with
    | zero => simp [encs_op]
    | succ i =>
      rw [show (i + 1) * 6 = i * 6 + 1 + 1 + 1 + 1 + 1 + 1 by omega]
      simp [encs_op, ih]
theorem encs_drop_op (l : List S40) (i : Nat) : (encs_op l).drop (i * 6) = encs_op (l.drop i) := by
  induction l generalizing i with
  | nil => simp [encs_op]
  | cons x l ih =>
    cases i with
    | zero => simp [encs_op]
    | succ i =>
      rw [show (i + 1) * 6 = i * 6 + 1 + 1 + 1 + 1 + 1 + 1 by omega]
      simp [encs_op, ih]
theorem encs_one_op (l : List S40) : ∀ u ∈ encs_op l, u.oneCell' = true := by
  induction l with
  | nil => simp [encs_op]
  | cons x l ih =>
    intro u hu
    simp only [encs_op, List.mem_cons] at hu
    rcases hu with rfl | rfl | rfl | rfl | rfl | rfl | hu
    · rfl
    · rfl
    · rfl
    · rfl
    · rfl
    · rfl
    · exact ih u hu
theorem reps_encs_op (R : S40 → List Value → Prop) (hR : ∀ x cs, R x cs → cs = [.int .i64 x.f0.f0, .int .i64 x.f0.f1, .int .i64 x.f0.f2, .int .i64 x.f0.f3, .int .i64 x.f1, .int .i64 x.f2]) : ∀ (l : List S40) (cs : List Value), Reps R 6 l cs → cs = encs_op l
  | [], cs, h => by
    have := h.1
    exact List.eq_nil_of_length_eq_zero (by simpa using this)
  | x :: l, cs, h => by
    have hl := h.1
    have h0 := hR x _ (h.2 0 x rfl)
    simp only [Nat.zero_mul, List.drop_zero] at h0
    have hrest := reps_encs_op R hR l (cs.drop 6) ⟨by rw [List.length_drop, hl]; simp only [List.length_cons]; omega, fun j p hj => by
      have := h.2 (j + 1) p (by simpa using hj)
      rw [show (j + 1) * 6 = 6 + j * 6 by omega, ← List.drop_drop] at this
      exact this⟩
    rw [← List.take_append_drop 6 cs, h0, hrest]
    rfl
theorem encs_reps_op (R : S40 → List Value → Prop) (hR : ∀ x, R x [.int .i64 x.f0.f0, .int .i64 x.f0.f1, .int .i64 x.f0.f2, .int .i64 x.f0.f3, .int .i64 x.f1, .int .i64 x.f2]) (l : List S40) : Reps R 6 l (encs_op l) := by
  refine ⟨encs_len_op l, fun j p hj => ?_⟩
  have hj' := (List.getElem?_eq_some_iff.1 hj).1
  have e := (List.getElem?_eq_some_iff.1 hj).2
  rw [encs_drop_op, List.drop_eq_getElem_cons hj', e]
  exact hR p
theorem own_of_R_op {e : TypeId} {w : World} {base : Nat} {ok : Nat → Prop} {v : Value} {l : List S40} (h : Kd.R k40 e w base ok v l) : w.ownsRow base e 6 v l.length (encs_op l) := by
  obtain ⟨_, inner, ho, hr⟩ := h
  rw [reps_encs_op _ (fun x cs h => k40_openM h) l inner hr] at ho
  exact ho
theorem R_of_ownE_op {e : TypeId} {w : World} {base : Nat} {ok : Nat → Prop} {v : Value} {l : List S40} (h : w.ownsRow base e 6 v l.length (encs_op l)) (hok : ∀ k, v.ownBlock = some k → ok k) : Kd.R k40 e w base ok v l :=
  ⟨hok, encs_op l, h, encs_reps_op _ (fun x => k40_mkM _ _ _ x) l⟩
/-- An own row that is not empty: its block. -/
theorem R_block_op {e : TypeId} {w : World} {base : Nat} {ok : Nat → Prop} {v : Value} {l : List S40} (h : Kd.R k40 e w base ok v l) (hl : 0 < l.length) :
    ∃ g c cl, v = .slice (some ⟨g, 0, none⟩) l.length c ∧ base ≤ g ∧ ok g ∧ Blk w g e (List.toArray cl) ∧ l.length ≤ c ∧ cl.length = c * 6 ∧ cl.take (l.length * 6) = encs_op l := by
  have ho := own_of_R_op h
  rcases ho.2 with ⟨_, h0⟩ | ⟨g, cap, cur, rfl, hbg, hg, hnc, hcm, hcs, htk⟩
  · omega
  · exact ⟨g, cap, cur.toList, rfl, hbg, h.1 g rfl, by simpa [Blk] using hg, hnc, by simpa using hcs, htk⟩
theorem ownBlock_base_op {e : TypeId} {w : World} {base : Nat} {ok : Nat → Prop} {v : Value} {l : List S40} (h : Kd.R k40 e w base ok v l) : ∀ k, v.ownBlock = some k → base ≤ k := by
  intro k hk
  rcases (own_of_R_op h).2 with ⟨rfl, _⟩ | ⟨g, cap, cur, rfl, hbg, hg, hnc, hcm, hcs, htk⟩
  · cases hk
  · cases hk; exact hbg
end Go.Proofs.Ytpddppipjlagfaa
