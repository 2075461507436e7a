/- A walk along a chain: contract; the document's answers for the same. No statement is proved here. -/
import Derived.Test.YtmmpdpnonnjadaaEChain
namespace Go.Proofs.Ytmmpdpnonnjadaa
set_option linter.unusedVariables false
set_option linter.unusedSimpArgs false
open Go.RowKit Go.Proofs.YtmmpdpnonnjadaaW.PrintWords Go.Proofs.YtmmpdpnonnjadaaW.PrintLast Go.Proofs.YtmmpdpnonnjadaaW.PrintMore

def IsRowI (l : List Int) (c : Int) (w : World) (e : Ending) (w' : World) : Prop :=
  ∃ v, e = .returned (.tuple #[v, .int .i64 c]) ∧ Kd.R (Kd.int .i64) 3 w' w.heap.size (fun _ => True) v l ∧ Below w.heap.size w w'
set_option maxHeartbeats 400000 in
theorem walk_nil (h most : Int) (w : World) :
    Calls Try.prog 35 #[.pointer none, .int .i64 h, .int .i64 most] w fun e w' => e = .returned (.tuple #[.slice none 0 0, .int .i64 2]) ∧ w = w' := by
  go_enter Try.func35, Try.ntmps35
  go_wp2
  go_ret2
  exact ⟨rfl, rfl⟩

theorem walkS_zero (m : List Int) (n : Nat) (out : List Int) : walkS m n 0 out = (out, 0) := by cases n <;> simp [walkS]
theorem info_i64 : (Try.prog.info? 3).map (fun i => (i.zero, i.size, i.bytes)) = some (some (.int .i64 0), 1, 8) := by kernel_rfl

set_option maxHeartbeats 4000000 in
theorem walk_in (ga gb : Nat) (m : List Int) (h most : Int) (w : World) (ha : Ar w ga gb m) (h0 : 0 ≤ h) (h1 : h ≤ m.length) (hm : most ≤ 1000000) :
    Calls Try.prog 35 #[.pointer (some ⟨ga, 0, none⟩), .int .i64 h, .int .i64 most] w (IsRowI (walkS m most.toNat h []).1 (walkS m most.toNat h []).2 w) := by
  obtain ⟨⟨r1, r2⟩, hr⟩ : ∃ r, r = walkS m most.toNat h [] := ⟨_, rfl⟩
  rw [← hr]
  have HR : Sh (walkS m most.toNat h [] = (r1, r2)) := ⟨hr.symm⟩
  have hs := ha.small
  have HA := Sh.mk ha
  clear ha hr
  obtain ⟨n0, hn0⟩ : ∃ n0 : Nat, n0 = most.toNat := ⟨_, rfl⟩
  rw [← hn0] at HR
  have HN := Sh.mk hn0
  clear hn0
  go_enter Try.func35, Try.ntmps35
  go_wp2_with fail
  (with_reducible refine (len_any ga gb m _ HA.out).mono ?_); rintro e w' ⟨rfl, rfl⟩
  go_wp2
  go_loopg [1, 8] n0 (fun kq v1 v8 wr => ∃ (x1 : Int) (x8 : List Int), v1 = .int .i64 x1 ∧ -9223372036854775808 ≤ x1 ∧ x1 ≤ 9223372036854775807 ∧ Sh (walkS m kq x1 x8 = (r1, r2)) ∧ Sh (x8.length + kq = n0) ∧ Sh (Kd.R (Kd.int .i64) 3 wr w.heap.size (fun _ => True) v8 x8) ∧ Sh (Below w.heap.size w wr))
  case atStart => exact ⟨h, [], rfl, by omega, by omega, HR, ⟨by simp⟩, ⟨Kd.R_nil _ _ _ _ _⟩, ⟨Below.refl _ _⟩⟩
  case round =>
    clear HR
    obtain ⟨x1, x8, rfl, hx0, hx1, HW, HL, HO, HB⟩ := hrel
    obtain ⟨Ao, co, eo⟩ := Kd.R_slice HO.out
    subst eo
    by_cases c0 : x1 = 0
    · subst x1
      have hz := HW.out
      rw [walkS_zero] at hz
      obtain ⟨rfl, rfl⟩ := Prod.mk.inj hz
      clear hz
      go_wp2
      go_ret2
      exact ⟨_, rfl, HO.out, HB.out⟩
    · have b0 : (x1 != 0) = true := bne_iff_ne.mpr c0
      have HAr : Sh (Ar wr ga gb m) := ⟨HA.out.kp (Kp.of_below HB.out []) (by simp) (by simp)⟩
      obtain ⟨⟨p1, p2, p3⟩, hp⟩ : ∃ p, p = popS m x1 := ⟨_, rfl⟩
      have hq := popS_hi m x1
      rw [← hp] at hq
      obtain ⟨hq1, hq2⟩ := hq
      have HP : Sh (Calls Try.prog 31 #[.pointer (some ⟨ga, 0, none⟩), .int .i64 x1] wr fun e w' => e = .returned (.tuple #[.int .i64 p1, .int .i64 p2, .int .i64 p3]) ∧ wr = w') := by
        have := pop_any ga gb m x1 wr HAr.out hx0 hx1
        rw [← hp] at this
        exact ⟨this⟩
      cases gk with
      | zero =>
        have hz := HW.out
        unfold walkS at hz
        rw [if_neg c0] at hz
        obtain ⟨rfl, rfl⟩ := Prod.mk.inj hz
        clear hz hp c0
        have hlm : most ≤ (x8.length : Int) := by have := HL.out; have := HN.out; omega
        by_cases c3 : p3 = 0
        · subst p3
          go_wp2_with fail
          (with_reducible refine HP.out.mono ?_); rintro e w' ⟨rfl, rfl⟩
          go_wp2
          go_ret2
          exact ⟨_, rfl, Kd.R_nil _ _ _ _ _, HB.out⟩
        · have b3 : (p3 != 0) = true := bne_iff_ne.mpr c3
          clear c3
          go_wp2_with fail
          (with_reducible refine HP.out.mono ?_); rintro e w' ⟨rfl, rfl⟩
          go_wp2
          go_ret2
          exact ⟨_, rfl, Kd.R_nil _ _ _ _ _, HB.out⟩
      | succ k2 =>
        have hz := HW.out
        unfold walkS at hz
        rw [if_neg c0, ← hp] at hz
        have hlm : (x8.length : Int) < most := by have := HL.out; have := HN.out; omega
        have hl63 : x8.length < 17592186044416 := by omega
        by_cases c3 : p3 = 0
        · subst p3
          rw [if_pos rfl] at hz
          have HZ := Sh.mk hz
          clear hz hp c0 HW
          have b3 : ((0 : Int) != 0) = false := rfl
          have LM := Sh.mk hl63
          clear hl63
          go_wp2_with fail
          (with_reducible refine HP.out.mono ?_); rintro e w' ⟨rfl, rfl⟩
          go_wp2_with (first | ((with_reducible refine gate_builtin (b := .append) (xs := #[.tmp 41, .tmp 43]) rfl ?_); (try (refine gate_guard (by rfl) ?_; dsimp only)); at_builtin; refine Kd.R_append (Kd.int .i64) (w0 := w) w.heap.size rfl (.tmp 41) (.tmp 43) 37 3 (.int .i64 0) 8 rfl Try.underlying37 info_i64 rfl (by decide) (by omega) (.slice Ao x8.length co) x8 p1 [.int .i64 p1] (fun _ => True) (fun _ => False) rfl rfl ?aP (fun _ hk => hk.elim) ?aF ?aO ?aB ?aS ?aL ?_; (case aP => exact rfl); (case aB => exact (by repeat (first | exact HB.out | apply below_alloc | apply pw_below_drewN | apply below_drew1))); (case aF => exact (fun _ _ => trivial)); (case aO => exact (by (with_reducible repeat (first | apply Kd.R_alloc | apply Kd.R_drewN | apply Kd.R_drew)); exact HO.out)); (case aS => exact below_size (by repeat (first | exact HB.out | apply below_alloc | apply pw_below_drewN | apply below_drew1))); (case aL => have := LM.out; omega); intro v44 w14 ho hb hg hat; have HO' := Sh.mk ho; have HB' := Sh.mk hb; clear ho hb hg hat))
          go_roundg k2
          case measure => omega
          case rel => exact ⟨p2, x8 ++ [p1], rfl, hq1, hq2, HZ, ⟨by have := HL.out; simp; omega⟩, HO', HB'⟩
        · rw [if_neg c3] at hz
          obtain ⟨rfl, rfl⟩ := Prod.mk.inj hz
          have b3 : (p3 != 0) = true := bne_iff_ne.mpr c3
          clear hz hp c0 c3 HW
          go_wp2_with fail
          (with_reducible refine HP.out.mono ?_); rintro e w' ⟨rfl, rfl⟩
          go_wp2
          go_ret2
          exact ⟨_, rfl, Kd.R_nil _ _ _ _ _, HB.out⟩

set_option maxHeartbeats 1000000 in
theorem walk_any (ga gb : Nat) (m : List Int) (h most : Int) (w : World) (ha : Ar w ga gb m) (hm : most ≤ 1000000) :
    Calls Try.prog 35 #[.pointer (some ⟨ga, 0, none⟩), .int .i64 h, .int .i64 most] w (IsRowI (walkT m h most).1 (walkT m h most).2 w) := by
  by_cases c1 : h < 0
  · have e1 : walkT m h most = ([], 1) := by unfold walkT; rw [if_pos (.inl c1)]
    rw [e1]
    clear e1
    go_enter Try.func35, Try.ntmps35
    go_wp2
    go_ret2
    exact ⟨_, rfl, Kd.R_nil _ _ _ _ _, Below.refl _ _⟩
  · by_cases c2 : (m.length : Int) < h
    · have e1 : walkT m h most = ([], 1) := by unfold walkT; rw [if_pos (.inr c2)]
      rw [e1]
      have c1' : 0 ≤ h := by omega
      have hs := ha.small
      have HA := Sh.mk ha
      clear e1 c1 ha
      go_enter Try.func35, Try.ntmps35
      go_wp2_with fail
      (with_reducible refine (len_any ga gb m _ HA.out).mono ?_); rintro e w' ⟨rfl, rfl⟩
      go_wp2
      go_ret2
      exact ⟨_, rfl, Kd.R_nil _ _ _ _ _, Below.refl _ _⟩
    · have e1 : walkT m h most = walkS m most.toNat h [] := by unfold walkT; rw [if_neg (by omega)]
      rw [e1]
      exact walk_in ga gb m h most w ha (by omega) (by omega) hm
end Go.Proofs.Ytmmpdpnonnjadaa
