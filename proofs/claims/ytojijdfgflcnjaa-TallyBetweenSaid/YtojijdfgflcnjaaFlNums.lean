/- Words as numbers (Nums): a contract. No statement is proved here. -/
import Derived.Test.YtojijdfgflcnjaaFlAwake
namespace Go.Proofs.Ytojijdfgflcnjaa
set_option linter.unusedVariables false
set_option linter.unusedSimpArgs false
open Go.RowKit Go.Proofs.YtojijdfgflcnjaaW.PrintWords Go.Proofs.YtojijdfgflcnjaaW.PrintLast Go.Proofs.YtojijdfgflcnjaaW.PrintMore Fl Pr

def numsL (ws : List Int) : List Nat := (ws.take 300).map Int.toNat
theorem numsL_len (ws : List Int) : (numsL ws).length = min 300 ws.length := by simp [numsL]
theorem u64_mem {ws : List Int} (h : ∀ x ∈ ws, (Lit.int .u64 x).wf = true) : ∀ x ∈ ws, 0 ≤ x ∧ x < 18446744073709551616 := by
  intro x hx
  have h := h x hx
  simp only [Lit.wf, Bool.and_eq_true, decide_eq_true_eq] at h
  have h1 : IntKind.u64.min = 0 := by decide
  have h2 : IntKind.u64.max = 18446744073709551615 := by decide
  omega
theorem numsL_lt {ws : List Int} (h : ∀ x ∈ ws, 0 ≤ x ∧ x < 18446744073709551616) : ∀ x ∈ numsL ws, x < 18446744073709551616 := by
  intro x hx
  obtain ⟨y, hy, rfl⟩ := List.mem_map.1 hx
  have := h y (List.mem_of_mem_take hy)
  omega
theorem take_map_snoc (ws : List Int) (k : Nat) (h : k < ws.length) : (ws.take (k + 1)).map Int.toNat = (ws.take k).map Int.toNat ++ [(rd ws (k : Int)).toNat] := by
  rw [List.take_succ_eq_append_getElem h, List.map_append]
  simp [rd, List.getD_eq_getElem?_getD, List.getElem?_eq_getElem h]
set_option maxRecDepth 100000 in
set_option maxHeartbeats 1000000 in
theorem nums_any (A0 : Option Addr) (c0 : Nat) (l0 : List Int) (w : World) (hr0 : Kd.C (Kd.int .u64) w A0 l0.length l0) (hl : l0.length ≤ 17592186044416) :
    Calls Try.prog 11 #[.slice A0 l0.length c0] w fun e w' => ∃ v, e = .returned v ∧ Kd.R kf 25 w' w.heap.size (fun _ => True) v (numsL l0) ∧ Below w.heap.size w w' := by
  have HR := Sh.mk hr0
  clear hr0
  go_enter Try.func11, Try.ntmps11
  go_wp2
  go_loopw [3, 4] (fun lv i wr => ∃ k : Nat, k ≤ l0.length ∧ k ≤ 300 ∧ i = .int .i64 k ∧ Sh (Kd.R kf 25 wr w.heap.size (fun _ => True) lv ((l0.take k).map Int.toNat)) ∧ Sh (Below w.heap.size w wr)) (fun lv i _ => l0.length - (intOf i).toNat)
  case atStart => exact ⟨0, Nat.zero_le _, by omega, rfl, ⟨Kd.R_nil _ _ _ _ _⟩, ⟨Below.refl _ _⟩⟩
  case round =>
    obtain ⟨k, hk, hk3, rfl, HO, HB⟩ := hrel
    obtain ⟨L, hL⟩ : ∃ L, L = (l0.take k).map Int.toNat := ⟨_, rfl⟩
    have hll : L.length = k := by rw [hL]; simp; omega
    rw [← hL] at HO
    obtain ⟨Ao, co, eo⟩ := Kd.R_slice HO.out
    subst eo
    have HLL := Sh.mk hL
    by_cases hlt : k < l0.length
    · by_cases h3 : k < 300
      · obtain ⟨ad, rfl, hcell⟩ := Kd.at_int (Kd.C_below HR.out HB.out) (k : Int) (by omega) (by omega)
        rw [Int.toNat_natCast] at hcell
        have HS := Sh.mk (take_map_snoc l0 k hlt)
        obtain ⟨x, hx⟩ : ∃ x, x = rd l0 (k : Int) := ⟨_, rfl⟩
        rw [← hx] at hcell HS
        rw [← hL] at HS
        have LM : Sh (L.length < 17592186044416) := ⟨by omega⟩
        have HLK := Sh.mk hll
        clear hx hL hll
        go_wp2_with fail
        (with_reducible refine (rnum_any _ _).mono ?_); rintro e w' ⟨rfl, rfl⟩
        go_wp2_with (first | ((with_reducible refine gate_builtin (b := .append) (xs := #[.tmp 15, .tmp 21]) rfl ?_); (try (refine gate_guard (by rfl) ?_; dsimp only)); at_builtin; refine Kd.R_append kf (w0 := w) w.heap.size rfl (.tmp 15) (.tmp 21) 23 25 (.float .f64 0) 8 rfl Try.underlying23 info_f rfl (by decide) (by omega) (.slice Ao L.length co) L x.toNat [.float .f64 x.toNat] (fun _ => True) (fun _ => False) rfl rfl ?aP (fun _ hk => hk.elim) ?aF ?aO ?aB ?aS ?aL ?_; (case aP => exact rfl); (case aB => exact (by repeat (first | exact HB.out | apply below_alloc | apply pw_below_drewN | apply below_drew1))); (case aF => exact (fun _ _ => trivial)); (case aO => exact (by (with_reducible repeat (first | apply Kd.R_alloc | apply Kd.R_drewN | apply Kd.R_drew)); exact HO.out)); (case aS => exact below_size (by repeat (first | exact HB.out | apply below_alloc | apply pw_below_drewN | apply below_drew1))); (case aL => have := LM.out; omega); intro v44 w14 ho hb hg hat; have HO' := Sh.mk ho; have HB' := Sh.mk hb; clear ho hb hg hat))
        go_roundw
        case measure => simp [intOf]; omega
        case rel => exact ⟨k + 1, by omega, by omega, by go_num, ⟨by rw [HS.out]; exact HO'.out⟩, HB'⟩
      · have e : k = 300 := by omega
        have HE : Sh (numsL l0 = L) := ⟨by rw [HLL.out, e]; rfl⟩
        clear hL hll
        go_wp2
        go_ret
        exact ⟨_, rfl, by rw [HE.out]; exact HO.out, HB.out⟩
    · have HE : Sh (numsL l0 = L) := ⟨by
        unfold numsL
        rw [HLL.out, List.take_of_length_le (by omega : l0.length ≤ 300), List.take_of_length_le (by omega : l0.length ≤ k)]⟩
      clear hL hll
      go_wp2
      go_ret
      exact ⟨_, rfl, by rw [HE.out]; exact HO.out, HB.out⟩
end Go.Proofs.Ytojijdfgflcnjaa
