/- TallyParts' walk: how broken up runs are, and how much of what is not free is live, are the document's. No statement is proved here. -/
import Derived.Test.YtojijdfgflcnjaaFlUse
import Derived.Test.YtojijdfgflcnjaaFlAwake
namespace Go.Proofs.Ytojijdfgflcnjaa
set_option linter.unusedVariables false
set_option linter.unusedSimpArgs false
open Go.RowKit Go.Proofs.YtojijdfgflcnjaaW.PrintWords Go.Proofs.YtojijdfgflcnjaaW.PrintLast Go.Proofs.YtojijdfgflcnjaaW.PrintMore Fl Pr Go.Proofs.Ytojijdfgflcnjaa.Pure

/-- A number is handed back, of this word. -/
def IsW (a : Int) (w : World) (e : Ending) (w' : World) : Prop := ∃ r, e = .returned (.float .f64 r) ∧ wd r = a ∧ Below w.heap.size w w'
theorem IsF.toW {s : Nat} {w : World} {e : Ending} {w' : World} (h : IsF s w e w') : IsW (wd s) w e w' := by
  obtain ⟨r, h1, h2, h3, h4⟩ := h
  exact ⟨r, h1, h2.wd, h4⟩
theorem word_as {r : Nat} {a : Int} (h : wd r = a) (w : World) : Calls Try.prog 14 #[.float .f64 r] w fun e w' => e = .returned (.int .u64 a) ∧ w = w' := by
  rw [← h]; exact rword_any r w

set_option maxRecDepth 100000 in
set_option maxHeartbeats 16000000 in
theorem tallyParts_walk (A : Option Addr) (c : Nat) (ns : List Int) (B : Option Addr) (d : Nat) (l : List S61) (A0 A1 A2 A3 A4 A5 A6 : Option Addr) (c0 c1 c2 c3 c4 c5 c6 : Nat) (l0 l1 l2 l3 l4 l5 l6 : List Pc) (w : World)
    (hr : Kd.C (Kd.int .u8) w A ns.length ns) (hc : ns.length ≤ c) (hw : ∀ x ∈ ns, (Lit.int .u8 x).wf = true) (hy : ns.length * 1 ≤ 140737488351232)
    (hrl : Kd.C k61 w B l.length l) (hcl : l.length ≤ d)
    (h : Seven w A0 A1 A2 A3 A4 A5 A6 c0 c1 c2 c3 c4 c5 c6 l0 l1 l2 l3 l4 l5 l6)
    (hs : l0.length * 16 ≤ reachBytes ∧ l1.length * 16 ≤ reachBytes ∧ l2.length * 16 ≤ reachBytes ∧ l3.length * 16 ≤ reachBytes ∧ l4.length * 16 ≤ reachBytes ∧ l5.length * 16 ≤ reachBytes ∧ l6.length * 16 ≤ reachBytes) :
    Calls Try.prog 9 #[.slice A ns.length c, .slice B l.length d, .agg #[.slice A0 l0.length c0, .slice A1 l1.length c1, .slice A2 l2.length c2, .slice A3 l3.length c3, .slice A4 l4.length c4, .slice A5 l5.length c5, .slice A6 l6.length c6]] w fun e w' => e = .returned (.bool true) ∧ Below w.heap.size w w' := by
  simp only [reachBytes] at hs
  obtain ⟨m, h1, hrt⟩ := made_ev hw hy
  obtain ⟨k, hk⟩ := h1.rounds
  have HM := Sh.mk (fun W (hW : Below w.heap.size w W) => rickyardlaw5_Made.calls k A c ns m W (Kd.C_below hr hW) hc (by rw [hk]))
  have hml : m.length < 9223372036854775807 := by
    rcases rt_len hrt with rfl | h
    · simp
    · omega
  obtain ⟨k1, m1⟩ := (most_ev m hml).rounds
  obtain ⟨k2, m2⟩ := (total_ev hrt).rounds
  obtain ⟨k3, m3⟩ := (rmost_ev m hml).rounds
  obtain ⟨k4, m4⟩ := (rtotal_ev hrt).rounds
  obtain ⟨a, ha⟩ : ∃ a, a = wd (frN (most m 0) (tot m)) := ⟨_, rfl⟩
  have HF1 : Sh (∀ (W : World) (X : Option Addr) (cx : Nat), Kd.C k61 W X m.length m → m.length ≤ cx → Calls Try.prog 25 #[.slice X m.length cx] W (IsW a W)) := ⟨fun W X cx hX hcx => by
    rw [ha]; exact (frag_any _ _ k1 k2 X cx m W hX hcx m1 m2).mono fun e w' h => h.toW⟩
  have HF2 : Sh (∀ (W : World) (X : Option Addr) (cx : Nat), Kd.C k61 W X m.length m → m.length ≤ cx → Calls Try.prog 29 #[.slice X m.length cx] W (IsW a W)) := ⟨fun W X cx hX hcx => by
    rw [ha]; exact (rfrag_any _ _ k3 k4 X cx m W hX hcx m3 m4).mono fun e w' h => h.toW⟩
  clear ha m1 m2 m3 m4 hk h1 hr hw hy hc
  by_cases hbad : (300 < l.length ∨ 600 < l0.length + l1.length + l2.length + l3.length) ∨ 600 < l4.length + l5.length + l6.length
  · obtain ⟨n0, e0⟩ : ∃ n, n = l0.length := ⟨_, rfl⟩
    obtain ⟨n1, e1⟩ : ∃ n, n = l1.length := ⟨_, rfl⟩
    obtain ⟨n2, e2⟩ : ∃ n, n = l2.length := ⟨_, rfl⟩
    obtain ⟨n3, e3⟩ : ∃ n, n = l3.length := ⟨_, rfl⟩
    obtain ⟨n4, e4⟩ : ∃ n, n = l4.length := ⟨_, rfl⟩
    obtain ⟨n5, e5⟩ : ∃ n, n = l5.length := ⟨_, rfl⟩
    obtain ⟨n6, e6⟩ : ∃ n, n = l6.length := ⟨_, rfl⟩
    obtain ⟨q, eq⟩ : ∃ n, n = l.length := ⟨_, rfl⟩
    rw [← e0, ← e1, ← e2, ← e3, ← e4, ← e5, ← e6] at hs
    rw [← e0, ← e1, ← e2, ← e3, ← e4, ← e5, ← e6, ← eq] at hbad ⊢
    have v1 : IntKind.i64.wrap ((n0 : Int) + (n1 : Int)) = (n0 : Int) + (n1 : Int) := by rw [IntKind.wrap_i64]; omega
    have v2 : IntKind.i64.wrap ((n0 : Int) + (n1 : Int) + (n2 : Int)) = (n0 : Int) + (n1 : Int) + (n2 : Int) := by rw [IntKind.wrap_i64]; omega
    have v3 : IntKind.i64.wrap ((n0 : Int) + (n1 : Int) + (n2 : Int) + (n3 : Int)) = (n0 : Int) + (n1 : Int) + (n2 : Int) + (n3 : Int) := by rw [IntKind.wrap_i64]; omega
    have v4 : IntKind.i64.wrap ((n4 : Int) + (n5 : Int)) = (n4 : Int) + (n5 : Int) := by rw [IntKind.wrap_i64]; omega
    have v5 : IntKind.i64.wrap ((n4 : Int) + (n5 : Int) + (n6 : Int)) = (n4 : Int) + (n5 : Int) + (n6 : Int) := by rw [IntKind.wrap_i64]; omega
    have fin : Sh (∀ W, Below w.heap.size w W → Calls Try.prog 17 #[] W fun e w' => e = .returned (.bool true) ∧ Below w.heap.size w w') := ⟨fun W hW => (awake_any W).mono fun e w' ⟨h1, h2⟩ => ⟨h1, below_step hW h2⟩⟩
    by_cases z1 : 300 < q
    · have b1 : decide ((q : Int) > 300) = true := decide_eq_true (by omega)
      have b1' : decide (300 < q) = true := decide_eq_true z1
      clear hs hbad e0 e1 e2 e3 e4 e5 e6 eq HM HF1 HF2 h hrl
      go_enter Try.func9, Try.ntmps9
      go_wp2_with fail
      (with_reducible refine (fin.out _ (below_alloc (Below.refl _ _) _)).mono ?_); rintro e w1 ⟨rfl, hb⟩
      have HB := Sh.mk hb
      clear hb
      go_wp2
      go_ret
      exact ⟨rfl, HB.out⟩
    · have b1 : decide ((q : Int) > 300) = false := decide_eq_false (by omega)
      have b1' : decide (300 < q) = false := decide_eq_false z1
      by_cases z2 : 600 < n0 + n1 + n2 + n3
      · have b2 : decide ((n0 : Int) + (n1 : Int) + (n2 : Int) + (n3 : Int) > 600) = true := decide_eq_true (by omega)
        clear hs hbad e0 e1 e2 e3 e4 e5 e6 eq HM HF1 HF2 h hrl
        go_enter Try.func9, Try.ntmps9
        go_wp2_with fail
        (with_reducible refine (fin.out _ (below_alloc (Below.refl _ _) _)).mono ?_); rintro e w1 ⟨rfl, hb⟩
        have HB := Sh.mk hb
        clear hb
        go_wp2
        go_ret
        exact ⟨rfl, HB.out⟩
      · have b2 : decide ((n0 : Int) + (n1 : Int) + (n2 : Int) + (n3 : Int) > 600) = false := decide_eq_false (by omega)
        have b3 : decide ((n4 : Int) + (n5 : Int) + (n6 : Int) > 600) = true := decide_eq_true (by omega)
        clear hs hbad e0 e1 e2 e3 e4 e5 e6 eq HM HF1 HF2 h hrl
        go_enter Try.func9, Try.ntmps9
        go_wp2_with fail
        (with_reducible refine (fin.out _ (below_alloc (Below.refl _ _) _)).mono ?_); rintro e w1 ⟨rfl, hb⟩
        have HB := Sh.mk hb
        clear hb
        go_wp2
        go_ret
        exact ⟨rfl, HB.out⟩
  · -- the lists are looked at
    obtain ⟨b, hb⟩ : ∃ b, b = wd (shN (hsum l5) (hsum [l1, l2, l3, l4, l5, l6].flatten)) := ⟨_, rfl⟩
    have HU1 : ∀ W : World, Below w.heap.size w W → Calls Try.prog 30 #[.agg #[.slice A0 l0.length c0, .slice A1 l1.length c1, .slice A2 l2.length c2, .slice A3 l3.length c3, .slice A4 l4.length c4, .slice A5 l5.length c5, .slice A6 l6.length c6]] W (IsW b W) := fun W hW => by
      rw [hb]; exact (use_any _ _ _ _ _ _ _ _ _ _ _ _ _ _ _ _ _ _ _ _ _ W (h.below hW) (by omega)).mono fun e w' h => h.toW
    have HU2 : ∀ W : World, Below w.heap.size w W → Calls Try.prog 31 #[.agg #[.slice A0 l0.length c0, .slice A1 l1.length c1, .slice A2 l2.length c2, .slice A3 l3.length c3, .slice A4 l4.length c4, .slice A5 l5.length c5, .slice A6 l6.length c6]] W (IsW b W) := fun W hW => by
      rw [hb]; exact (ruse_any _ _ _ _ _ _ _ _ _ _ _ _ _ _ _ _ _ _ _ _ _ W (h.below hW) (by omega)).mono fun e w' h => h.toW
    clear hb h
    have hl3 : l.length ≤ 300 := by omega
    obtain ⟨k5, m5⟩ := (rright_ev l 256 (by omega)).rounds
    have HRR := Sh.mk (fun W (hW : Below w.heap.size w W) => rickyardref1_RightRuns.calls k5 B d l 256 _ W (Kd.C_below hrl hW) hcl m5)
    have HRF : Sh (rF l 256 = true → ∃ x : Int, ∀ W : World, Below w.heap.size w W → Calls Try.prog 25 #[.slice B l.length d] W (IsW x W) ∧ Calls Try.prog 29 #[.slice B l.length d] W (IsW x W)) := ⟨fun hF => by
      have ht := rF_rt hF
      obtain ⟨k1, m1⟩ := (most_ev l (by omega)).rounds
      obtain ⟨k2, m2⟩ := (total_ev ht).rounds
      obtain ⟨k3, m3⟩ := (rmost_ev l (by omega)).rounds
      obtain ⟨k4, m4⟩ := (rtotal_ev ht).rounds
      exact ⟨_, fun W hW => ⟨(frag_any _ _ k1 k2 B d l W (Kd.C_below hrl hW) hcl m1 m2).mono fun e w' h => h.toW, (rfrag_any _ _ k3 k4 B d l W (Kd.C_below hrl hW) hcl m3 m4).mono fun e w' h => h.toW⟩⟩⟩
    obtain ⟨n0, e0⟩ : ∃ n, n = l0.length := ⟨_, rfl⟩
    obtain ⟨n1, e1⟩ : ∃ n, n = l1.length := ⟨_, rfl⟩
    obtain ⟨n2, e2⟩ : ∃ n, n = l2.length := ⟨_, rfl⟩
    obtain ⟨n3, e3⟩ : ∃ n, n = l3.length := ⟨_, rfl⟩
    obtain ⟨n4, e4⟩ : ∃ n, n = l4.length := ⟨_, rfl⟩
    obtain ⟨n5, e5⟩ : ∃ n, n = l5.length := ⟨_, rfl⟩
    obtain ⟨n6, e6⟩ : ∃ n, n = l6.length := ⟨_, rfl⟩
    obtain ⟨q, eq⟩ : ∃ n, n = l.length := ⟨_, rfl⟩
    rw [← e0, ← e1, ← e2, ← e3, ← e4, ← e5, ← e6] at hs
    rw [← e0, ← e1, ← e2, ← e3, ← e4, ← e5, ← e6, ← eq] at hbad ⊢
    rw [← e0, ← e1, ← e2, ← e3, ← e4, ← e5, ← e6] at HU1 HU2
    rw [← eq] at HRR HRF
    obtain ⟨R, eR⟩ : ∃ R, R = rF l 256 := ⟨_, rfl⟩
    rw [← eR] at HRR HRF
    have HU1S := Sh.mk HU1
    have HU2S := Sh.mk HU2
    have v1 : IntKind.i64.wrap ((n0 : Int) + (n1 : Int)) = (n0 : Int) + (n1 : Int) := by rw [IntKind.wrap_i64]; omega
    have v2 : IntKind.i64.wrap ((n0 : Int) + (n1 : Int) + (n2 : Int)) = (n0 : Int) + (n1 : Int) + (n2 : Int) := by rw [IntKind.wrap_i64]; omega
    have v3 : IntKind.i64.wrap ((n0 : Int) + (n1 : Int) + (n2 : Int) + (n3 : Int)) = (n0 : Int) + (n1 : Int) + (n2 : Int) + (n3 : Int) := by rw [IntKind.wrap_i64]; omega
    have v4 : IntKind.i64.wrap ((n4 : Int) + (n5 : Int)) = (n4 : Int) + (n5 : Int) := by rw [IntKind.wrap_i64]; omega
    have v5 : IntKind.i64.wrap ((n4 : Int) + (n5 : Int) + (n6 : Int)) = (n4 : Int) + (n5 : Int) + (n6 : Int) := by rw [IntKind.wrap_i64]; omega
    have b1 : decide ((q : Int) > 300) = false := decide_eq_false (by omega)
    have b1' : decide (300 < q) = false := decide_eq_false (by omega)
    have b2 : decide ((n0 : Int) + (n1 : Int) + (n2 : Int) + (n3 : Int) > 600) = false := decide_eq_false (by omega)
    have b3 : decide ((n4 : Int) + (n5 : Int) + (n6 : Int) > 600) = false := decide_eq_false (by omega)
    clear hs hbad e0 e1 e2 e3 e4 e5 e6 eq eR HU1 HU2 m5 hl3 hrl hml hrt hcl
    have HX0 : Sh (Blk (w.alloc (.cells #[.slice A0 n0 c0, .slice A1 n1 c1, .slice A2 n2 c2, .slice A3 n3 c3, .slice A4 n4 c4, .slice A5 n5 c5, .slice A6 n6 c6] 53)) w.heap.size 53 #[.slice A0 n0 c0, .slice A1 n1 c1, .slice A2 n2 c2, .slice A3 n3 c3, .slice A4 n4 c4, .slice A5 n5 c5, .slice A6 n6 c6]) := ⟨Blk.new w _ _⟩
    have HBB : Sh (Below w.heap.size w (w.alloc (.cells #[.slice A0 n0 c0, .slice A1 n1 c1, .slice A2 n2 c2, .slice A3 n3 c3, .slice A4 n4 c4, .slice A5 n5 c5, .slice A6 n6 c6] 53))) := ⟨below_alloc (Below.refl _ _) _⟩
    go_enter Try.func9, Try.ntmps9
    go_wp2_with fail
    (with_reducible refine (HM.out _ HBB.out).mono ?_); rintro e w1 ⟨v, rfl, hO, hB⟩
    obtain ⟨Am, cm, e2, hcm, hCm⟩ := Kd.R_reads hO
    subst e2
    have HB1 : Sh (Below w.heap.size w w1) := ⟨below_step HBB.out hB⟩
    have HX1 : Sh (w1.heap[w.heap.size]? = some (.cells #[.slice A0 n0 c0, .slice A1 n1 c1, .slice A2 n2 c2, .slice A3 n3 c3, .slice A4 n4 c4, .slice A5 n5 c5, .slice A6 n6 c6] 53 (0, 0))) := ⟨HX0.out.kp (Kp.of_below hB []) (by simp)⟩
    have HG1 : Sh (∀ W : World, Below w1.heap.size w1 W → Calls Try.prog 25 #[.slice Am m.length cm] W (IsW a W)) := ⟨fun W hW => HF1.out W Am cm (Kd.C_below hCm hW) hcm⟩
    have HG2 : Sh (∀ W : World, Below w1.heap.size w1 W → Calls Try.prog 29 #[.slice Am m.length cm] W (IsW a W)) := ⟨fun W hW => HF2.out W Am cm (Kd.C_below hCm hW) hcm⟩
    have HV1 : Sh (∀ W : World, Below w1.heap.size w1 W → Calls Try.prog 30 #[.agg #[.slice A0 n0 c0, .slice A1 n1 c1, .slice A2 n2 c2, .slice A3 n3 c3, .slice A4 n4 c4, .slice A5 n5 c5, .slice A6 n6 c6]] W (IsW b W)) := ⟨fun W hW => HU1S.out W (below_step HB1.out hW)⟩
    have HV2 : Sh (∀ W : World, Below w1.heap.size w1 W → Calls Try.prog 31 #[.agg #[.slice A0 n0 c0, .slice A1 n1 c1, .slice A2 n2 c2, .slice A3 n3 c3, .slice A4 n4 c4, .slice A5 n5 c5, .slice A6 n6 c6]] W (IsW b W)) := ⟨fun W hW => HU2S.out W (below_step HB1.out hW)⟩
    obtain ⟨mm, hmm⟩ : ∃ n, n = m.length := ⟨_, rfl⟩
    rw [← hmm] at HG1 HG2 ⊢
    have HKS : Sh (∀ W : World, W.heap[w.heap.size]? = some (.cells #[.slice A0 n0 c0, .slice A1 n1 c1, .slice A2 n2 c2, .slice A3 n3 c3, .slice A4 n4 c4, .slice A5 n5 c5, .slice A6 n6 c6] 53 (0, 0)) → W.cell? ⟨w.heap.size, 0, none⟩ = some (.slice A0 n0 c0) ∧ W.cell? ⟨w.heap.size, 1, none⟩ = some (.slice A1 n1 c1) ∧ W.cell? ⟨w.heap.size, 2, none⟩ = some (.slice A2 n2 c2) ∧ W.cell? ⟨w.heap.size, 3, none⟩ = some (.slice A3 n3 c3) ∧ W.cell? ⟨w.heap.size, 4, none⟩ = some (.slice A4 n4 c4) ∧ W.cell? ⟨w.heap.size, 5, none⟩ = some (.slice A5 n5 c5) ∧ W.cell? ⟨w.heap.size, 6, none⟩ = some (.slice A6 n6 c6)) := ⟨fun W hW =>
      ⟨(blk_cell hW 0).trans rfl, (blk_cell hW 1).trans rfl, (blk_cell hW 2).trans rfl, (blk_cell hW 3).trans rfl, (blk_cell hW 4).trans rfl, (blk_cell hW 5).trans rfl, (blk_cell hW 6).trans rfl⟩⟩
    have HZ0 : Sh (Below w1.heap.size w1 w1) := ⟨Below.refl _ _⟩
    clear hmm hCm hcm hO hB HX0 HBB HM HF1 HF2 HU1S HU2S
    go_upto_region 4 with fail
    go_cut [61] (fun v wc => v = .bool false ∧ Sh (Below w1.heap.size w1 wc))
    case first =>
      go_region_held3 (fun W => W.cell? ⟨w.heap.size, 0, none⟩ = some (.slice A0 n0 c0) ∧ W.cell? ⟨w.heap.size, 1, none⟩ = some (.slice A1 n1 c1) ∧ W.cell? ⟨w.heap.size, 2, none⟩ = some (.slice A2 n2 c2) ∧ W.cell? ⟨w.heap.size, 3, none⟩ = some (.slice A3 n3 c3) ∧ W.cell? ⟨w.heap.size, 4, none⟩ = some (.slice A4 n4 c4) ∧ W.cell? ⟨w.heap.size, 5, none⟩ = some (.slice A5 n5 c5) ∧ W.cell? ⟨w.heap.size, 6, none⟩ = some (.slice A6 n6 c6)) (exact HKS.out _ (by with_reducible repeat (first | exact HX1.out | refine blk_drew ?_ | refine blk_below ?_ (by assumption)))) (first
        | (go_at_call 14; first | (with_reducible refine (word_as hwa _).mono ?_; rintro e w' ⟨rfl, rfl⟩) | (with_reducible refine (word_as hwb _).mono ?_; rintro e w' ⟨rfl, rfl⟩) | (with_reducible refine (word_as hwc _).mono ?_; rintro e w' ⟨rfl, rfl⟩) | (with_reducible refine (word_as hwd _).mono ?_; rintro e w' ⟨rfl, rfl⟩))
        | (go_at_call 25; (with_reducible refine (HG1.out _ (by repeat (first | exact HZ0.out | apply below_drew1 | refine below_step ?_ (by assumption)))).mono ?_); rintro e wa ⟨ra, rfl, hwa, ha⟩)
        | (go_at_call 29; (with_reducible refine (HG2.out _ (by repeat (first | exact HZ0.out | apply below_drew1 | refine below_step ?_ (by assumption)))).mono ?_); rintro e wb ⟨rb, rfl, hwb, hb⟩)
        | (go_at_call 30; (with_reducible refine (HV1.out _ (by repeat (first | exact HZ0.out | apply below_drew1 | refine below_step ?_ (by assumption)))).mono ?_); rintro e wd_ ⟨rc, rfl, hwc, hc⟩)
        | (go_at_call 31; (with_reducible refine (HV2.out _ (by repeat (first | exact HZ0.out | apply below_drew1 | refine below_step ?_ (by assumption)))).mono ?_); rintro e we ⟨rd_, rfl, hwd, hd⟩))
      all_goals
        go_wp2
        go_meet
        exact ⟨rfl, ⟨by with_reducible repeat (first | exact HZ0.out | apply below_drew1 | refine below_step ?_ (by assumption))⟩⟩
    case rest =>
      obtain ⟨rfl, HWC⟩ := hcut
      have HB2 : Sh (Below w.heap.size w wc) := ⟨below_step HB1.out HWC.out⟩
      clear HWC HKS HX1 HG1 HG2 HV1 HV2 HZ0 HB1
      cases hR : R with
      | false =>
        rw [hR] at HRR
        clear hR HRF
        go_wp2_with fail
        (with_reducible refine (HRR.out _ HB2.out).mono ?_); rintro e w' ⟨rfl, n, rfl⟩
        have HB3 : Sh (Below w.heap.size w (wc.drewN n)) := ⟨pw_below_drewN HB2.out n⟩
        generalize wc.drewN n = w3 at HB3 ⊢
        go_wp2_with fail
        (with_reducible refine (awake_any _).mono ?_); rintro e w4 ⟨rfl, hb⟩
        have HB4 : Sh (Below w.heap.size w w4) := ⟨below_step HB3.out hb⟩
        clear hb
        go_wp2
        go_ret
        exact ⟨rfl, HB4.out⟩
      | true =>
        obtain ⟨x, hx⟩ := HRF.out hR
        have HXX := Sh.mk hx
        rw [hR] at HRR
        clear hR HRF hx
        go_wp2_with fail
        (with_reducible refine (HRR.out _ HB2.out).mono ?_); rintro e w' ⟨rfl, n, rfl⟩
        have HB3 : Sh (Below w.heap.size w (wc.drewN n)) := ⟨pw_below_drewN HB2.out n⟩
        generalize wc.drewN n = w3 at HB3 ⊢
        go_wp2_with fail
        (with_reducible refine ((HXX.out _ HB3.out).1).mono ?_); rintro e w4 ⟨ra, rfl, hwa, hb⟩
        have HB4 : Sh (Below w.heap.size w w4) := ⟨below_step HB3.out hb⟩
        clear hb
        go_wp2_with fail
        (with_reducible refine (word_as hwa _).mono ?_); rintro e w' ⟨rfl, rfl⟩
        go_wp2_with fail
        (with_reducible refine ((HXX.out _ HB4.out).2).mono ?_); rintro e w5 ⟨rb, rfl, hwb, hb⟩
        have HB5 : Sh (Below w.heap.size w w5) := ⟨below_step HB4.out hb⟩
        clear hb
        go_wp2_with fail
        (with_reducible refine (word_as hwb _).mono ?_); rintro e w' ⟨rfl, rfl⟩
        go_wp2_with fail
        (with_reducible refine (awake_any _).mono ?_); rintro e w6 ⟨rfl, hb⟩
        have HB6 : Sh (Below w.heap.size w w6) := ⟨below_step HB5.out hb⟩
        clear hb
        go_wp2
        go_ret
        exact ⟨rfl, HB6.out⟩
end Go.Proofs.Ytojijdfgflcnjaa
