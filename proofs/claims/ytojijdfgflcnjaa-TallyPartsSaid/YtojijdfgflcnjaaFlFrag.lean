/- How broken up runs are: contracts, and what it comes to. No statement is proved here. -/
import Derived.Test.YtojijdfgflcnjaaFlShare
import Derived.Test.YtojijdfgflcnjaaFlRuns
namespace Go.Proofs.Ytojijdfgflcnjaa
set_option linter.unusedVariables false
set_option linter.unusedSimpArgs false
open Go.RowKit Go.Proofs.YtojijdfgflcnjaaW.PrintWords Go.Proofs.YtojijdfgflcnjaaW.PrintLast Go.Proofs.YtojijdfgflcnjaaW.PrintMore Fl Pr

/-- How much is not in the greatest run. -/
def frN (M T : Int) : Nat := subN 4607182418800017408 (shN M T)
theorem frag_any (M T : Int) (k k' : Nat) (A : Option Addr) (c : Nat) (l : List S61) (w : World) (hr : Kd.C k61 w A l.length l) (hc : l.length ≤ c) (hM : runs_Most.f k l = some M) (hT : runs_Total.f k' l = some T) :
    Calls Try.prog 25 #[.slice A l.length c] w (IsF (frN M T) w) := by
  have H1 := Sh.mk (runs_Most.calls k A c l M w hr hc hM)
  have H2 := Sh.mk (fun w' (hb : Below w.heap.size w w') => runs_Total.calls k' A c l T w' (Kd.C_below hr hb) hc hT)
  clear hr hM hT
  go_enter Try.func25, Try.ntmps25
  go_wp2_with fail
  (with_reducible refine H1.out.mono ?_); rintro e w1 ⟨rfl, b1⟩
  have B1 := Sh.mk b1
  clear b1
  go_wp2_with fail
  (with_reducible refine (H2.out w1 B1.out).mono ?_); rintro e w2 ⟨rfl, b2⟩
  have B2 : Sh (Below w.heap.size w w2) := ⟨below_then B1.out B1.out.size b2⟩
  clear b2
  go_wp2_with fail
  (with_reducible refine (share_any M T w2).mono ?_); rintro e w3 ⟨r, rfl, h1, h2, b3⟩
  have B3 : Sh (Below w.heap.size w w3) := ⟨below_then B2.out B2.out.size b3⟩
  obtain ⟨r2, n, h, h3, h4⟩ := sub_run 4607182418800017408 r w3
  have E : Sh (Eqv r2 (frN M T)) := ⟨by
    have h5 := subN_eqv 4607182418800017408 h1
    rcases h3 with rfl | ⟨h6, h7⟩
    · exact h5
    · rcases h5 with h5 | ⟨h5, h8⟩
      · exact .inr ⟨h6, by unfold frN; rw [← h5]; exact h7⟩
      · exact .inr ⟨h6, h8⟩⟩
  clear b3 h1 h3
  go_wp2
  go_ret
  exact ⟨r2, rfl, E.out, h4, below_then B3.out B3.out.size (pw_below_drewN (Below.refl _ _) n)⟩
theorem rfrag_any (M T : Int) (k k' : Nat) (A : Option Addr) (c : Nat) (l : List S61) (w : World) (hr : Kd.C k61 w A l.length l) (hc : l.length ≤ c) (hM : rickyardref1_Most.f k l = some M) (hT : rickyardref1_Total.f k' l = some T) :
    Calls Try.prog 29 #[.slice A l.length c] w (IsF (frN M T) w) := by
  have H1 := Sh.mk (rickyardref1_Most.calls k A c l M w hr hc hM)
  have H2 := Sh.mk (fun w' (hb : Below w.heap.size w w') => rickyardref1_Total.calls k' A c l T w' (Kd.C_below hr hb) hc hT)
  clear hr hM hT
  go_enter Try.func29, Try.ntmps29
  go_wp2_with fail
  (with_reducible refine H1.out.mono ?_); rintro e w1 ⟨rfl, b1⟩
  have B1 : Sh (Below w.heap.size w w1) := ⟨b1⟩
  clear b1
  go_wp2_with fail
  (with_reducible refine (H2.out w1 B1.out).mono ?_); rintro e w2 ⟨rfl, b2⟩
  have B2 : Sh (Below w.heap.size w w2) := ⟨by obtain ⟨n, rfl⟩ := b2; exact below_then B1.out B1.out.size (pw_below_drewN (Below.refl _ _) n)⟩
  clear b2
  go_wp2_with fail
  (with_reducible refine (rshare_any M T w2).mono ?_); rintro e w3 ⟨r, rfl, h1, h2, b3⟩
  have B3 : Sh (Below w.heap.size w w3) := ⟨below_then B2.out B2.out.size b3⟩
  obtain ⟨r2, n, h, h3, h4⟩ := sub_run 4607182418800017408 r w3
  have E : Sh (Eqv r2 (frN M T)) := ⟨by
    have h5 := subN_eqv 4607182418800017408 h1
    rcases h3 with rfl | ⟨h6, h7⟩
    · exact h5
    · rcases h5 with h5 | ⟨h5, h8⟩
      · exact .inr ⟨h6, by unfold frN; rw [← h5]; exact h7⟩
      · exact .inr ⟨h6, h8⟩⟩
  clear b3 h1 h3
  go_wp2
  go_ret
  exact ⟨r2, rfl, E.out, h4, below_then B3.out B3.out.size (pw_below_drewN (Below.refl _ _) n)⟩

/-- One run: nothing is broken up. -/
theorem frN_one : ∀ M : Fin 21, 1 ≤ M.val → frN M.val M.val = 0 := by decide +kernel
theorem frN_none : nanB (frN 0 0) = true := by decide +kernel
/-- More runs: between nought and one. -/
def midB (x : Nat) : Bool := (Ieee.double.order x 0 == some .gt) && (Ieee.double.order x 4607182418800017408 == some .lt)
theorem frN_mid : ∀ M : Fin 21, ∀ T : Fin 257, 1 ≤ M.val → M.val < T.val → midB (frN M.val T.val) = true := by decide +kernel
end Go.Proofs.Ytojijdfgflcnjaa
