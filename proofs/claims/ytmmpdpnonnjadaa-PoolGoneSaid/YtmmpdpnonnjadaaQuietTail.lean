/- A region that draws its order: all operations but the last few are quiet in a class of worlds (calls that make memory), the last few come in one order. No statement is proved here. -/
import Derived.Test.YtmmpdpnonnjadaaBase
import Derived.Deep.Quiet
import Derived.StillTail
namespace Go.Proofs.Ytmmpdpnonnjadaa
set_option linter.unusedVariables false
open Go.RowKit Go.Proofs.YtmmpdpnonnjadaaW.PrintWords Go.Proofs.YtmmpdpnonnjadaaW.PrintLast

section
variable {P : Program} {ops : Array Oper} {md : Region.Mode} {C : World → Prop}
/-- The first f that come up are of the first n, and quiet; behind them L. -/
def qHead (P : Program) (md : Region.Mode) (ops : Array Oper) (C : World → Prop) (n : Nat) (L : Array Bool → Act → Prop) : Nat → Array Bool → Act → Prop
  | 0, li, a => L li a
  | f + 1, li, a => Region.ready md ops li ≠ [] ∧ ∀ i ∈ Region.ready md ops li, i < n ∧ qOp P ops C i (qHead P md ops C n L f (li.setIfInBounds i true)) a
theorem any_of_qHead {n g : Nat} {L : Array Bool → Act → Prop} {Q' : Exit → Act → World → Prop} (hL : ∀ li a w, C w → L li a → wpAny P md ops Q' g li a w) :
    ∀ (f : Nat) (li : Array Bool) (a : Act) (w : World), C w → qHead P md ops C n L f li a → wpAny P md ops Q' (f + g) li a w := by
  intro f
  induction f with
  | zero => intro li a w hw h; rw [Nat.zero_add]; exact hL _ _ _ hw h
  | succ f ih =>
    intro li a w hw h
    rw [show f + 1 + g = (f + g) + 1 by omega]
    exact ⟨fun e => (h.1 e).elim, fun i hi => wpOp_of_qOp hw (fun a' w' hw' h' => ih _ a' w' hw' h') (h.2 i hi).2⟩
theorem qHead_first {n i : Nat} {oi : Oper} {v : Value} {L : Array Bool → Act → Prop} (hi : ops[i]? = some oi) (hsel : ∀ (j : Nat) (o : Oper) cs b, ops[j]? = some o → o.op ≠ .select cs b)
    (hs : Region.sinkB md ops n = true) (hc : Region.chainB md ops n = true) (hn : n < ops.size) (hin : i < n) (hdone : ∀ li a, L li a → ∀ j ∈ Region.ready md ops li, n ≤ j) :
    ∀ (f : Nat) (li : Array Bool) (a : Act), HeadInv md ops n li →
      (∀ j oj, ops[j]? = some oj → j ≠ i → li.getD j true = false → (∀ e ∈ oj.after, Region.binds md e = true → e.on ≠ i) → oi.apart ops oj = true) →
      i ∈ Region.ready md ops li → YieldsIn P ops C oi v a → qHead P md ops C n L f (li.setIfInBounds i true) (a.put oi.dst v) → qHead P md ops C n L (f + 1) li a := by
  intro f
  induction f with
  | zero =>
    intro li a inv _ hr hy H
    have hun := (mem_ready.1 hr).1
    refine ⟨fun e => (by rw [e] at hr; cases hr), fun j hj => ?_⟩
    have hjn : j < n := Nat.lt_of_not_le fun hle => tail_waits hs hc hn inv _ i rfl hin hun j hle hj
    refine ⟨hjn, ?_⟩
    by_cases e : j = i
    · rw [e]; exact hy.qOp hi H
    · exact absurd (hdone _ _ H j (ready_mono hj e)) (by omega)
  | succ f ih =>
    intro li a inv hfree hr hy H
    have hun := (mem_ready.1 hr).1
    refine ⟨fun e => (by rw [e] at hr; cases hr), fun j hj => ?_⟩
    have hjn : j < n := Nat.lt_of_not_le fun hle => tail_waits hs hc hn inv _ i rfl hin hun j hle hj
    refine ⟨hjn, ?_⟩
    by_cases e : j = i
    · rw [e]; exact hy.qOp hi H
    · have h1 := (H.2 j (ready_mono hj e)).2
      obtain ⟨hjun, oj, hoj, hall⟩ := mem_ready.1 hj
      have hnot : ∀ x ∈ oj.after, Region.binds md x = true → x.on ≠ i := fun x hx hb hon => by
        have h2 := hall x hx hb
        rw [hon, getD_both hun] at h2
        cases h2
      have h2 := qOp_put hoj (hfree j oj hoj e hjun hnot) (fun cs b => hsel i oi cs b hi) (fun cs b => hsel j oj cs b hoj) hy h1
      refine qOp_mono (fun a' h3 => ih (li.setIfInBounds j true) a' (inv.set hj hjn) (fun k ok hk hki hku hno => ?_) (ready_mono hr (Ne.symm e)) h3.1 ?_) h2
      · refine hfree k ok hk hki ?_ hno
        by_cases ejk : j = k
        · rw [← ejk]; exact hjun
        · rwa [getD_set_ne true ejk] at hku
      · rw [Array.setIfInBounds_comm _ _ e]
        exact h3.2
theorem qHead_lex {n g : Nat} {Lq : Act → Prop} (hsel : Region.noSelect ops = true) (hs : Region.sinkB md ops n = true) (hc : Region.chainB md ops n = true) (hn : n < ops.size) :
    ∀ (l : List Oper) (k : Nat) (li : Array Bool) (a : Act), (∀ j, j < l.length → l[j]? = ops[k + j]?) → k + l.length = n → HeadInv md ops n li →
    Region.lexHead md ops g l.length k li = true → wpQuiet P ops C Lq l a → qHead P md ops C n (fun li' a' => Region.seqB md ops g n li' = true ∧ Lq a') l.length li a := by
  intro l
  induction l with
  | nil =>
    intro k li a _ hk _ hB h
    obtain rfl : k = n := by simpa using hk
    exact ⟨by simpa [Region.lexHead] using hB, h⟩
  | cons o l ih =>
    intro k li a hl hk inv hB h
    have h0 : ops[k]? = some o := by simpa using (hl 0 (by simp)).symm
    simp only [List.length_cons, Region.lexHead, Bool.and_eq_true] at hB
    obtain ⟨⟨hr, hf⟩, hB'⟩ := hB
    have hkn : k < n := by simp only [List.length_cons] at hk; omega
    have hr' : k ∈ Region.ready md ops li := by simpa using hr
    have hq : qOp P ops C k (wpQuiet P ops C Lq l) a := by unfold qOp; simp only [h0]; exact h
    obtain ⟨v, hy, hK⟩ := yieldsIn_of_qOp h0 hq
    exact qHead_first h0 (Region.noSelect_spec hsel) hs hc hn hkn (fun li' a' hL => seqB_ready hL.1) l.length li a inv (Region.free_spec h0 hf) hr' hy
      (ih (k + 1) _ _ (fun j hj => by have := hl (j + 1) (by simp; omega); simpa [Nat.add_assoc, Nat.add_comm 1 j] using this) (by simp only [List.length_cons] at hk; omega) (inv.set hr' hkn) hB' hK)
theorem wp_region_quiet_tail {id : Nat} {Q : Exit → Act → World → Prop} {a : Act} {w : World} {l : List Oper} (n : Nat) (hm : P.follows .mixedOrders = true) (hB : Region.lexTailB .any l.toArray n = true) (hC : C w.drew)
    (h : wpQuiet P l.toArray C (fun a' => ∀ w', C w' → wpList P l.toArray Q (l.drop n) a' w') (l.take n) a) : (Code.region id l.toArray true).wp P Q a w := by
  simp only [Region.lexTailB, Bool.and_eq_true, decide_eq_true_eq] at hB
  obtain ⟨⟨⟨⟨hsel, hn⟩, hs⟩, hc⟩, hlex⟩ := hB
  have htl : (l.take n).length = n := by have : n < l.length := by simpa using hn
                                         simp; omega
  have hdl : (l.drop n).length = l.toArray.size - n := by simp
  have inv0 : HeadInv .any l.toArray n (Array.replicate l.toArray.size false) :=
    ⟨by simp, fun j oj _ hl => (by rw [getD_replicate_false] at hl; cases hl), fun t _ ht => getD_in (by simpa using ht) (getD_replicate_false _ _)⟩
  have H := qHead_lex (md := .any) (C := C) (P := P) (g := l.toArray.size - n) hsel hs hc hn (l.take n) 0 _ a (fun j hj => by
    have hj' : j < n := by rw [htl] at hj; exact hj
    simp [hj']) (by simpa using htl) inv0 (by rw [htl]; exact hlex) h
  refine wp_region_any hm ?_
  have := any_of_qHead (Q' := Q) (g := l.toArray.size - n) (fun li a' w' hw' hL => by
    have := wpAny_of_seq (P := P) (md := .any) (Q' := Q) (l.drop n) n li a' w' (fun j => by simp [List.getElem?_drop]) (by rw [hdl]; exact hL.1) (hL.2 w' hw')
    rwa [hdl] at this) _ _ _ w.drew hC H
  rw [htl, show n + (l.toArray.size - n) = l.toArray.size by omega] at this
  exact this
end
/-- All worlds that only new blocks tell from w. -/
structure Bel (w : World) where
  u : World
  h : Below w.heap.size w u
instance (w : World) : Inhabited (Bel w) := ⟨⟨w, Below.refl _ _⟩⟩
theorem Calls.bel_of {P : Program} {f : FuncId} {args : Array Value} {w : World} {p : Bel w} {v : Value}
    (h : Calls P f args p.u fun e w' => e = .returned v ∧ Below p.u.heap.size p.u w') : Calls P f args p.u fun e w'' => e = .returned v ∧ ∃ q : Bel w, w'' = q.u :=
  h.mono fun _ _ ⟨he, hb⟩ => ⟨he, ⟨_, below_step p.h hb⟩, rfl⟩
theorem wp_region_below {P : Program} {id : Nat} {Q : Exit → Act → World → Prop} {a : Act} {w : World} {l : List Oper} (hm : P.follows .mixedOrders = true) (hB : Region.lexB .any l.toArray = true)
    (h : wpQuiet P l.toArray (fun w' => ∃ p : Bel w, w' = p.u) (fun a' => ∀ w', (∃ p : Bel w, w' = p.u) → Q .normal a' w') l a) : (Code.region id l.toArray true).wp P Q a w :=
  wp_region_quiet (C := fun w' => ∃ p : Bel w, w' = p.u) hm hB ⟨⟨w.drew, (Below.refl _ _).drew⟩, rfl⟩ (by simpa using h)
theorem wp_region_below_tail {P : Program} {id : Nat} {Q : Exit → Act → World → Prop} {a : Act} {w : World} {l : List Oper} (n : Nat) (hm : P.follows .mixedOrders = true) (hB : Region.lexTailB .any l.toArray n = true)
    (h : wpQuiet P l.toArray (fun w' => ∃ p : Bel w, w' = p.u) (fun a' => ∀ w', (∃ p : Bel w, w' = p.u) → wpList P l.toArray Q (l.drop n) a' w') (l.take n) a) : (Code.region id l.toArray true).wp P Q a w :=
  wp_region_quiet_tail (C := fun w' => ∃ p : Bel w, w' = p.u) n hm hB ⟨⟨w.drew, (Below.refl _ _).drew⟩, rfl⟩ h
end Go.Proofs.Ytmmpdpnonnjadaa
