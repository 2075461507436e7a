/- Mid, Ends of floats, Nums: contracts. No statement is proved here. -/
import Derived.Test.YtojijdfgflcnjaaFlSort3
namespace Go.Proofs.Ytojijdfgflcnjaa
set_option linter.unusedVariables false
set_option linter.unusedSimpArgs false
open Go.RowKit Go.Proofs.YtojijdfgflcnjaaW.PrintWords Go.Proofs.YtojijdfgflcnjaaW.PrintLast Go.Proofs.YtojijdfgflcnjaaW.PrintMore Fl Pr

def midN (l : List Nat) : Nat := (srt l).getD (((srt l).length - 1) / 2) 9221120237041090561
def loN (l : List Nat) : Nat := (srt l).getD 0 9221120237041090561
def hiN (l : List Nat) : Nat := (srt l).getD ((srt l).length - 1) 9221120237041090561
theorem at_f {w : World} {A : Option Addr} {l : List Nat} (h : Kd.C kf w A l.length l) (i : Int) (h0 : 0 ≤ i) (h1 : i < l.length) (z : Nat) : ∃ ad, A = some ad ∧ ad.block < w.heap.size ∧ w.cell? (ad.add i.toNat) = some (.float .f64 (l.getD i.toNat z)) := by
  obtain ⟨ad, h2, h3⟩ := (Kd.reads_of_C (d := z) h).at_ i h0 h1
  refine ⟨ad, h2, ?_, h3⟩
  have := World.block_lt_of_cell? w _ h3
  have hb : (ad.add i.toNat).block = ad.block := by unfold Addr.add; split <;> rfl
  rwa [hb] at this
set_option maxHeartbeats 1000000 in
theorem mid_any (A : Option Addr) (c : Nat) (l : List Nat) (w : World) (hr : Kd.C kf w A l.length l) (hl : l.length < 17592186044416) (hb : ∀ x ∈ l, x < 18446744073709551616) :
    Calls Try.prog 15 #[.slice A l.length c] w fun e w' => e = .returned (.float .f64 (midN l)) ∧ Below w.heap.size w w' := by
  have HS := Sh.mk (sorted_any A c l w hr hl hb)
  have hle : (srt l).length ≤ l.length := by rw [srt_len]; exact List.length_filter_le _ _
  obtain ⟨s, hs⟩ : ∃ s, s = srt l := ⟨_, rfl⟩
  unfold midN
  unfold IsSrt at HS
  rw [← hs] at hle HS ⊢
  clear hs hr hb
  go_enter Try.func15, Try.ntmps15
  go_wp2_with fail
  (with_reducible refine HS.out.mono ?_); rintro e w1 ⟨A1, c1, rfl, h1, h2⟩
  have HB := Sh.mk h2
  have HC := Sh.mk h1
  clear h1 h2 HS
  rcases Nat.eq_zero_or_pos s.length with h0 | h0
  · obtain rfl := List.eq_nil_of_length_eq_zero h0
    clear h0 HC hle
    simp only [List.length_nil]
    go_wp2_with fail
    (with_reducible refine (nan_any _).mono ?_); rintro e w' ⟨rfl, rfl⟩
    go_wp2
    go_ret
    exact ⟨rfl, HB.out⟩
  · obtain ⟨ad, rfl, -, hcell⟩ := at_f HC.out (((s.length : Int) - 1) / 2) (by omega) (by omega) 9221120237041090561
    have e2 : (((s.length : Int) - 1) / 2).toNat = (s.length - 1) / 2 := by omega
    have i0 : 0 ≤ ((s.length : Int) - 1) / 2 := by omega
    have i1 : ((s.length : Int) - 1) / 2 < s.length := by omega
    have hz : ¬ ((s.length : Int) = 0) := by omega
    have hz1 : ((s.length : Int) == 0) = false := beq_eq_false_iff_ne.2 hz
    rw [e2] at hcell
    clear HC e2 hz
    go_wp2
    go_ret
    exact ⟨rfl, HB.out⟩
set_option maxHeartbeats 1000000 in
theorem ends_any (A : Option Addr) (c : Nat) (l : List Nat) (w : World) (hr : Kd.C kf w A l.length l) (hl : l.length < 17592186044416) (hb : ∀ x ∈ l, x < 18446744073709551616) :
    Calls Try.prog 12 #[.slice A l.length c] w fun e w' => e = .returned (.tuple #[.float .f64 (loN l), .float .f64 (hiN l)]) ∧ Below w.heap.size w w' := by
  have HS := Sh.mk (sorted_any A c l w hr hl hb)
  have hle : (srt l).length ≤ l.length := by rw [srt_len]; exact List.length_filter_le _ _
  obtain ⟨s, hs⟩ : ∃ s, s = srt l := ⟨_, rfl⟩
  unfold loN hiN
  unfold IsSrt at HS
  rw [← hs] at hle HS ⊢
  clear hs hr hb
  go_enter Try.func12, Try.ntmps12
  go_wp2_with fail
  (with_reducible refine HS.out.mono ?_); rintro e w1 ⟨A1, c1, rfl, h1, h2⟩
  have HB := Sh.mk h2
  have HC := Sh.mk h1
  clear h1 h2 HS
  rcases Nat.eq_zero_or_pos s.length with h0 | h0
  · obtain rfl := List.eq_nil_of_length_eq_zero h0
    clear h0 HC hle
    simp only [List.length_nil]
    go_wp2_with fail
    (with_reducible refine (nan_any _).mono ?_); rintro e w' ⟨rfl, rfl⟩
    go_wp2_with fail
    (with_reducible refine (nan_any _).mono ?_); rintro e w' ⟨rfl, rfl⟩
    go_wp2
    go_ret2
    exact ⟨rfl, HB.out⟩
  · obtain ⟨ad, rfl, -, hcell⟩ := at_f HC.out ((s.length : Int) - 1) (by omega) (by omega) 9221120237041090561
    obtain ⟨ad', e', -, hcell0⟩ := at_f HC.out 0 (by omega) (by omega) 9221120237041090561
    cases e'
    have e2 : ((s.length : Int) - 1).toNat = s.length - 1 := by omega
    have i0 : 0 ≤ (s.length : Int) - 1 := by omega
    have i1 : (s.length : Int) - 1 < s.length := by omega
    have hz1 : ((s.length : Int) == 0) = false := beq_eq_false_iff_ne.2 (by omega)
    have hp : 0 < s.length := h0
    rw [Int.toNat_zero] at hcell0
    rw [e2] at hcell
    have hcell1 : w1.cell? ad = some (.float .f64 (s.getD 0 9221120237041090561)) := by
      have : ad.add 0 = ad := by unfold Addr.add; split <;> simp_all
      rwa [this] at hcell0
    have hw : IntKind.i64.wrap ((s.length : Int) - 1) = (s.length : Int) - 1 := by rw [IntKind.wrap_i64]; omega
    clear HC e2 hcell0
    obtain ⟨x, hx⟩ : ∃ x, x = s.getD 0 9221120237041090561 := ⟨_, rfl⟩
    obtain ⟨y, hy⟩ : ∃ y, y = s.getD (s.length - 1) 9221120237041090561 := ⟨_, rfl⟩
    rw [← hx] at hcell1
    rw [← hy] at hcell
    have HX := Sh.mk hx
    have HY := Sh.mk hy
    clear hx hy
    go_wp2
    go_quiet (fail)
    go_wp2
    go_ret2
    exact ⟨by rw [← HX.out, ← HY.out]; rfl, by first | exact HB.out | exact below_then HB.out HB.out.size (pw_below_drewN (Below.refl _ _) _)⟩
end Go.Proofs.Ytojijdfgflcnjaa
