/- A row of pieces that is known whole, an exchange of two of them; the order that part.All asks for. No statement is proved here. -/
import Derived.Test.YthbknmblehecaaaConcat
import Derived.Test.YthbknmblehecaaaSortPure
import Derived.Test.YthbknmblehecaaaRowk
import Derived.BigRegion
namespace Go.Proofs.Ythbknmblehecaaa
set_option linter.unusedVariables false
set_option linter.unusedSimpArgs false
open Go.RowKit Go.Proofs.YthbknmblehecaaaW.PrintWords Go.Proofs.YthbknmblehecaaaW.PrintLast Go.Proofs.YthbknmblehecaaaW.PrintMore Pr Go.Proofs.Ythbknmblehecaaa.Pure

/-- A world in which what stood stands. -/
structure Bel (w : World) where
  u : World
  h : Below w.heap.size w u
instance (w : World) : Inhabited (Bel w) := ⟨⟨w, Below.refl _ _⟩⟩
theorem wp_region_below {P : Program} {id : Nat} {Q : Exit → Act → World → Prop} {a : Act} {w : World} {l : List Oper} (hm : P.follows .mixedOrders = true) (hB : Region.lexB .any l.toArray = true)
    (h : wpQuiet P l.toArray (fun w' => ∃ p : Bel w, w' = p.u) (fun a' => ∀ w', (∃ p : Bel w, w' = p.u) → Q .normal a' w') l a) : (Code.region id l.toArray true).wp P Q a w :=
  wp_region_quiet (C := fun w' => ∃ p : Bel w, w' = p.u) hm hB ⟨⟨w.drew, (Below.refl _ _).drew⟩, rfl⟩ (by simpa using h)
theorem Calls.bel_of {P : Program} {f : FuncId} {args : Array Value} {w : World} {p : Bel w} {v : Value}
    (h : Calls P f args p.u fun e w' => e = .returned v ∧ Below p.u.heap.size p.u w') : Calls P f args p.u fun e w'' => e = .returned v ∧ ∃ q : Bel w, w'' = q.u :=
  h.mono fun _ _ ⟨he, hb⟩ => ⟨he, ⟨_, below_step p.h hb⟩, rfl⟩

/-- The cells of a list. -/
def encp : List Pc → List Value
  | [] => []
  | x :: l => .int .i64 x.f0 :: .int .i64 x.f1 :: encp l
theorem encp_len (l : List Pc) : (encp l).length = l.length * 2 := by
  induction l with
  | nil => rfl
  | cons x l ih => simp only [encp, List.length_cons, ih]; omega
theorem encp_append (a b : List Pc) : encp (a ++ b) = encp a ++ encp b := by
  induction a with
  | nil => rfl
  | cons x l ih => simp [encp, ih]
theorem encp_at (A : List Pc) (x : Pc) (C : List Pc) (zs : List Value) : (encp (A ++ x :: C) ++ zs)[A.length * 2]? = some (.int .i64 x.f0) ∧ (encp (A ++ x :: C) ++ zs)[A.length * 2 + 1]? = some (.int .i64 x.f1) := by
  rw [encp_append, List.append_assoc]
  have h := encp_len A
  constructor
  · rw [List.getElem?_append_right (by omega), h, Nat.sub_self]; rfl
  · rw [List.getElem?_append_right (by omega), h, Nat.add_sub_cancel_left]; rfl
theorem encp_set (A : List Pc) (x y : Pc) (C : List Pc) (zs : List Value) : ((encp (A ++ x :: C) ++ zs).set (A.length * 2) (.int .i64 y.f0)).set (A.length * 2 + 1) (.int .i64 y.f1) = encp (A ++ y :: C) ++ zs := by
  rw [encp_append, encp_append, List.append_assoc, List.append_assoc]
  have h := encp_len A
  rw [List.set_append_right _ _ (by omega), List.set_append_right _ _ (by omega), h, Nat.sub_self, Nat.add_sub_cancel_left]
  rfl
/-- The row is known whole; all else is as it was in w0. -/
structure Row (w0 W : World) (g : Nat) (d : List Pc) (zs : List Value) : Prop where
  blk : Blk W g 58 (encp d ++ zs).toArray
  kp : Kp [g] w0 W
variable {w0 W W' : World} {g : Nat} {d : List Pc} {zs : List Value}
theorem Row.below (h : Row w0 W g d zs) (hb : Below W.heap.size W W') : Row w0 W' g d zs := ⟨h.blk.kp (Kp.of_below hb []) (by simp), h.kp.step (Kp.of_below hb []) (by simp)⟩
theorem Row.bel (h : Row w0 W g d zs) (p : Bel W) : Row w0 p.u g d zs := h.below p.h
theorem Row.drew (h : Row w0 W g d zs) : Row w0 W.drew g d zs := ⟨h.blk.drew, h.kp.drew⟩
theorem Row.drewN (h : Row w0 W g d zs) (n : Nat) : Row w0 (W.drewN n) g d zs := ⟨h.blk.drewN n, h.kp.drewN n⟩
theorem Row.c0 {A : List Pc} {x : Pc} {C : List Pc} (h : Row w0 W g (A ++ x :: C) zs) {i : Nat} (hi : i = A.length) : W.cell? ⟨g, i * 2, none⟩ = some (.int .i64 x.f0) := by
  rw [h.blk.cell, hi, List.getElem?_toArray]; exact (encp_at A x C zs).1
theorem Row.c1 {A : List Pc} {x : Pc} {C : List Pc} (h : Row w0 W g (A ++ x :: C) zs) {i : Nat} (hi : i = A.length) : W.cell? ⟨g, i * 2 + 1, none⟩ = some (.int .i64 x.f1) := by
  rw [h.blk.cell, hi, List.getElem?_toArray]; exact (encp_at A x C zs).2
theorem Row.set {A : List Pc} {x : Pc} {C : List Pc} (h : Row w0 W g (A ++ x :: C) zs) {i : Nat} (hi : i = A.length) (y : Pc) : Row w0 ((W.setCell ⟨g, i * 2, none⟩ (.int .i64 y.f0)).setCell ⟨g, i * 2 + 1, none⟩ (.int .i64 y.f1)) g (A ++ y :: C) zs := by
  refine ⟨?_, (h.kp.set_ (.inl (by simp)) _).set_ (.inl (by simp)) _⟩
  have h1 := (h.blk.set_ (i * 2) (.int .i64 y.f0)).set_ (i * 2 + 1) (.int .i64 y.f1)
  rw [List.setIfInBounds_toArray, List.setIfInBounds_toArray, hi, encp_set] at h1
  rw [hi]
  exact h1
theorem Row.re {d' : List Pc} (h : Row w0 W g d zs) (e : d = d') : Row w0 W g d' zs := e ▸ h
/-- Two exchanged: the lower one stored first. -/
theorem Row.swap_lo {A B C : List Pc} {x y : Pc} (h : Row w0 W g (A ++ x :: (B ++ y :: C)) zs) {i j : Nat} (hi : i = A.length) (hj : j = A.length + 1 + B.length) :
    Row w0 ((((W.setCell ⟨g, i * 2, none⟩ (.int .i64 y.f0)).setCell ⟨g, i * 2 + 1, none⟩ (.int .i64 y.f1)).setCell ⟨g, j * 2, none⟩ (.int .i64 x.f0)).setCell ⟨g, j * 2 + 1, none⟩ (.int .i64 x.f1)) g (A ++ y :: (B ++ x :: C)) zs :=
  (((h.set hi y).re (show A ++ y :: (B ++ y :: C) = (A ++ y :: B) ++ y :: C by simp)).set (by rw [hj]; simp; omega) x).re (by simp)
/-- .. the upper one first. -/
theorem Row.swap_hi {A B C : List Pc} {x y : Pc} (h : Row w0 W g (A ++ x :: (B ++ y :: C)) zs) {i j : Nat} (hi : i = A.length) (hj : j = A.length + 1 + B.length) :
    Row w0 ((((W.setCell ⟨g, j * 2, none⟩ (.int .i64 x.f0)).setCell ⟨g, j * 2 + 1, none⟩ (.int .i64 x.f1)).setCell ⟨g, i * 2, none⟩ (.int .i64 y.f0)).setCell ⟨g, i * 2 + 1, none⟩ (.int .i64 y.f1)) g (A ++ y :: (B ++ x :: C)) zs :=
  ((((h.re (show A ++ x :: (B ++ y :: C) = (A ++ x :: B) ++ y :: C by simp)).set (by rw [hj]; simp; omega) x).re (show (A ++ x :: B) ++ x :: C = A ++ x :: (B ++ x :: C) by simp)).set hi y)

/-- cmp.Compare of whole numbers. -/
def cmpI (a b : Int) : Int := if a < b then -1 else if b < a then 1 else 0
theorem cmpI_lt (a b : Int) : decide (cmpI a b < 0) = decide (a < b) := by
  unfold cmpI
  split
  next h => simp [h]
  next h =>
    split
    next h2 => simp [h]
    next h2 => simp [h]
theorem isNaN_any (a : Int) (w : World) : Calls Try.prog 69 #[.int .i64 a] w fun e w' => e = .returned (.bool false) ∧ w = w' := by
  have h : (a != a) = false := by simp
  go_enter Try.func69, Try.ntmps69
  go_wp2
  go_ret
  exact ⟨rfl, rfl⟩
theorem cmp_any (a b : Int) (w : World) : Calls Try.prog 58 #[.int .i64 a, .int .i64 b] w fun e w' => e = .returned (.int .i64 (cmpI a b)) ∧ w = w' := by
  unfold cmpI
  by_cases h1 : a < b
  · rw [if_pos h1]
    go_enter Try.func58, Try.ntmps58
    go_wp2_with (go_at_call 69; (with_reducible refine (isNaN_any _ _).mono ?_); rintro e w' ⟨rfl, rfl⟩)
    go_ret
    exact ⟨rfl, rfl⟩
  · rw [if_neg h1]
    by_cases h2 : b < a
    · rw [if_pos h2]
      go_enter Try.func58, Try.ntmps58
      go_wp2_with (go_at_call 69; (with_reducible refine (isNaN_any _ _).mono ?_); rintro e w' ⟨rfl, rfl⟩)
      go_ret
      exact ⟨rfl, rfl⟩
    · rw [if_neg h2]
      go_enter Try.func58, Try.ntmps58
      go_wp2_with (go_at_call 69; (with_reducible refine (isNaN_any _ _).mono ?_); rintro e w' ⟨rfl, rfl⟩)
      go_ret
      exact ⟨rfl, rfl⟩
theorem clo_any (x0 x1 y0 y1 : Int) (w : World) : Calls Try.prog 57 #[.agg #[.int .i64 x0, .int .i64 x1], .agg #[.int .i64 y0, .int .i64 y1]] w fun e w' => e = .returned (.int .i64 (cmpI x0 y0)) ∧ Below w.heap.size w w' := by
  have hu := Try.underlying58
  go_enter Try.func57, Try.ntmps57
  go_wp2_with (go_at_call 58; (with_reducible refine (cmp_any _ _ _).mono ?_); rintro e w' ⟨rfl, rfl⟩)
  go_ret
  exact ⟨rfl, below_alloc (below_alloc (Below.refl _ _) _) _⟩
end Go.Proofs.Ythbknmblehecaaa
