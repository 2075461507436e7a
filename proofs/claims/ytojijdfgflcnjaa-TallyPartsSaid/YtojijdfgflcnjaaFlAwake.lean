/- The document's examples for floats: awake: a contract. No statement is proved here. -/
import Derived.Test.YtojijdfgflcnjaaFlMid
import Derived.Test.YtojijdfgflcnjaaFlFrag
namespace Go.Proofs.Ytojijdfgflcnjaa
set_option linter.unusedVariables false
set_option linter.unusedSimpArgs false
open Go.RowKit Go.Proofs.YtojijdfgflcnjaaW.PrintWords Go.Proofs.YtojijdfgflcnjaaW.PrintLast Go.Proofs.YtojijdfgflcnjaaW.PrintMore Fl Pr

theorem C_run1 {w : World} {g : Nat} {t : TypeId} {a b : Int} (h : Blk w g t #[.int .i64 a, .int .i64 b]) : Kd.C k61 w (some ⟨g, 0, none⟩) [(⟨a, b⟩ : S61)].length [⟨a, b⟩] := by
  refine ⟨rfl, by simp, fun _ => ⟨_, rfl, fun j p hp => ?_⟩⟩
  have hj : j = 0 := by have := (List.getElem?_eq_some_iff.1 hp).1; simp at this; exact this
  subst hj
  simp only [List.getElem?_cons_zero, Option.some.injEq] at hp
  subst hp
  refine ⟨[.int .i64 a, .int .i64 b], rfl, ⟨[.int .i64 a], [.int .i64 b], rfl, rfl, rfl⟩, fun i u hu => ?_⟩
  rw [add_plain, h.cell]
  have : i < 2 := by have := (List.getElem?_eq_some_iff.1 hu).1; simpa using this
  match i, this with
  | 0, _ => simpa using hu
  | 1, _ => simpa using hu
theorem C_f3 {w : World} {g : Nat} {t : TypeId} {a b c : Nat} (h : Blk w g t #[.float .f64 a, .float .f64 b, .float .f64 c]) : Kd.C kf w (some ⟨g, 0, none⟩) [a, b, c].length [a, b, c] := by
  refine C_holds (fun j hj => ?_) (by simp)
  rw [h.cell]
  have : j < 3 := by simpa using hj
  match j, this with
  | 0, _ => rfl
  | 1, _ => rfl
  | 2, _ => rfl
theorem srt_pair (l : List Nat) : (srt l).Pairwise fun x y : Nat => rk (x : Int) ≤ rk (y : Int) := by
  unfold srt
  have := List.pairwise_mergeSort (le := fun x y : Nat => !decide (rk (y : Int) < rk (x : Int))) (fun a b c h1 h2 => by simp at *; omega) (fun a b => by simp; omega) (l.filter fun x => !nanB x)
  exact this.imp (fun h => by simpa using h)
theorem srt_perm (l : List Nat) : (srt l).Perm (l.filter fun x => !nanB x) := List.mergeSort_perm _ _
theorem srt_uniq (l s : List Nat) (hb : ∀ x ∈ l, x < 18446744073709551616) (hp : s.Perm (l.filter fun x => !nanB x)) (hs : s.Pairwise fun x y : Nat => rk (x : Int) ≤ rk (y : Int)) : srt l = s := by
  refine List.Perm.eq_of_pairwise (le := fun x y : Nat => rk (x : Int) ≤ rk (y : Int)) ?_ (srt_pair l) hs ((srt_perm l).trans hp.symm)
  intro a b ha hb' h1 h2
  have h3 := hb a (List.mem_filter.1 ((srt_perm l).mem_iff.1 ha)).1
  have h4 := hb b (List.mem_filter.1 (hp.mem_iff.1 hb')).1
  have := rk_inj (a := (a : Int)) (b := (b : Int)) ⟨by omega, by omega⟩ ⟨by omega, by omega⟩ (by omega)
  omega
theorem mid3 : midN [4613937818241073152, 9223372036854775808, 4607182418800017408] = 4607182418800017408 := by
  unfold midN
  rw [srt_uniq _ [9223372036854775808, 4607182418800017408, 4613937818241073152] (by decide) (by decide +kernel) (by decide +kernel)]
  rfl
theorem wd00 : wd (shN 0 0) = 9221120237041090560 := by decide +kernel
theorem fr33 : frN 3 3 = 0 := by decide +kernel
theorem most33 : ∃ k, runs_Most.f k [(⟨0, 3⟩ : S61)] = some 3 := ⟨3, by decide +kernel⟩
theorem total33 : ∃ k, runs_Total.f k [(⟨0, 3⟩ : S61)] = some 3 := ⟨3, by decide +kernel⟩
set_option maxHeartbeats 1000000 in
theorem awake_any (w : World) : Calls Try.prog 17 #[] w fun e w' => e = .returned (.bool true) ∧ Below w.heap.size w w' := by
  obtain ⟨k1, m1⟩ := most33
  obtain ⟨k2, m2⟩ := total33
  have M1 := Sh.mk m1
  have M2 := Sh.mk m2
  clear m1 m2
  go_enter Try.func17, Try.ntmps17
  go_wp2_with fail
  (with_reducible refine (share_any 0 0 _).mono ?_); rintro e w1 ⟨r, rfl, h1, h2, h3⟩
  have hw := h1.wd
  rw [wd00] at hw
  have HW := Sh.mk hw
  have B1 := Sh.mk h3
  clear h1 h3 hw
  go_wp2_with fail
  (with_reducible refine (word_any r _).mono ?_); rintro e w' ⟨rfl, rfl⟩
  rw [HW.out]
  go_wp2_with fail
  (refine (frag_any 3 3 k1 k2 _ _ [⟨0, 3⟩] _ (C_run1 (Blk.new _ _ _)) (Nat.le_refl _) M1.out M2.out).mono ?_); rintro e w2 ⟨q, rfl, h1, h4, h3⟩
  have hq : q = 0 := by
    rw [fr33] at h1
    rcases h1 with h | ⟨_, h⟩
    · exact h
    · cases h
  subst hq
  have z0 : (FloatKind.f64.format.order 0 0 == some .eq) = true := by rw [t_eq0]; decide
  have B2 : Sh (Below w.heap.size w w2) := ⟨below_then (below_alloc B1.out _) (by have := B1.out.size; simp; omega) h3⟩
  clear h1 h3 h4
  go_wp2_with fail
  (with_reducible refine (num_any _ _).mono ?_); rintro e w' ⟨rfl, rfl⟩
  go_wp2_with fail
  (refine (mid_any _ _ [4613937818241073152, 9223372036854775808, 4607182418800017408] _ (C_f3 (Blk.new _ _ _)) (by decide) (by decide)).mono ?_); rintro e w3 ⟨rfl, h3⟩
  rw [mid3]
  have z1 : (FloatKind.f64.format.order 4607182418800017408 4607182418800017408 == some .eq) = true := by
    have h : FloatKind.f64.format.order 4607182418800017408 4607182418800017408 = if nanB 4607182418800017408 then none else some .eq := order_self _
    rw [h]; decide
  have B3 : Sh (Below w.heap.size w w3) := ⟨below_then (below_alloc B2.out _) (by have := B2.out.size; simp; omega) h3⟩
  clear h3
  go_wp2
  go_ret
  exact ⟨rfl, B3.out⟩
end Go.Proofs.Ytojijdfgflcnjaa
