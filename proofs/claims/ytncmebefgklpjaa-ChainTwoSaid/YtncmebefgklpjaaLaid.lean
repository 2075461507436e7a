/- What the statements of layer 3 are made of: Laid, Words, awake: contracts. No statement is proved here. -/
import Derived.Test.YtncmebefgklpjaaArena2
namespace Go.Proofs.Ytncmebefgklpjaa
set_option linter.unusedVariables false
open Go.RowKit Go.Proofs.YtncmebefgklpjaaW.PrintWords Go.Proofs.YtncmebefgklpjaaW.PrintLast

theorem C_cell {k : IntKind} {w : World} {A : Option Addr} {n : Nat} {xs : List Int} (h : Kd.C (Kd.int k) w A n xs) (i : Nat) (hi : i < n) : ∃ ad, A = some ad ∧ ad.block < w.heap.size ∧ w.cell? (ad.add i) = some (.int k (rd0 xs i)) := by
  obtain ⟨ad, c, e, hlen, hK, hc0⟩ := Kd.C_get h (0 : Int) (i : Int) (by omega) (by omega)
  have hK' : c = [Value.int k (xs.getD (i : Int).toNat 0)] := hK
  subst hK'
  have := hc0 0 _ rfl
  have e1 : (i : Int).toNat * (Kd.int k).sz + 0 = i := by
    show (i : Int).toNat * 1 + 0 = i
    omega
  rw [e1, Int.toNat_natCast] at this
  refine ⟨ad, e, ?_, this⟩
  have hb := World.block_lt_of_cell? w _ this
  rwa [show (ad.add i).block = ad.block from by unfold Addr.add; split <;> rfl] at hb

theorem cells_of_C {k : IntKind} {w : World} {A : Option Addr} {n : Nat} {xs : List Int} (h : Kd.C (Kd.int k) w A n xs) (h0 : 0 < n) : ∃ ad, A = some ad ∧ ∀ j v, (xs.map (Value.int k))[j]? = some v → w.cell? (ad.add j) = some v := by
  obtain ⟨ad, rfl, _, _⟩ := C_cell h 0 h0
  refine ⟨ad, rfl, fun j v hv => ?_⟩
  have hj : j < xs.length := by
    have := (List.getElem?_eq_some_iff.1 hv).1
    simpa using this
  obtain ⟨ad', e, _, hc⟩ := C_cell h j (by have := h.1; omega)
  cases e
  rw [hc, rd0_get xs j hj]
  rw [List.getElem?_map, List.getElem?_eq_getElem hj] at hv
  simpa using hv
/-- The first k words of ws in front of L noughts. -/
def laidM (L : Nat) (ws : List Int) : Nat → List Int
  | 0 => List.replicate L 0
  | k + 1 => (laidM L ws k).set k (rd0 ws k)
theorem laidM_len (L : Nat) (ws : List Int) (k : Nat) : (laidM L ws k).length = L := by
  induction k with
  | zero => simp [laidM]
  | succ k ih => simp [laidM, ih]

/-- An arena and a list of the same words, both new. -/
def LaidPost (m : List Int) (w : World) (e : Ending) (w' : World) : Prop :=
  ∃ ga gb gm, e = .returned (.tuple #[.pointer (some ⟨ga, 0, none⟩), .slice (some ⟨gm, 0, none⟩) m.length m.length]) ∧ Ar w' ga gb m ∧ Blk w' gm 28 (U64s m) ∧ gm ≠ gb ∧
    w.heap.size ≤ ga ∧ w.heap.size ≤ gb ∧ w.heap.size ≤ gm ∧ Below w.heap.size w w'
set_option maxHeartbeats 2000000 in
theorem laid_any (p : Int) (A : Option Addr) (c : Nat) (ws : List Int) (w : World) (h0 : 1 ≤ p) (h1 : p ≤ 256) (hr : Kd.C (Kd.int .u64) w A ws.length ws) (hws : ws.length ≤ 17592186044416) :
    Calls Try.prog 15 #[.int .i64 p, .slice A ws.length c] w (LaidPost (laidM (p.toNat * 64) ws (min ws.length (p.toNat * 64))) w) := by
  have HR := Sh.mk hr
  have hmk := fun w => run_make_u64 (p * 64) (by omega) (by omega) w
  clear hr
  go_enter Try.func15, Try.ntmps15
  go_wp2_with fail
  (with_reducible refine (new_any p w h0 h1).mono ?_); rintro e w1 ⟨ga, gb, rfl, ha, hga, hgb, hb⟩
  obtain ⟨L, hL⟩ : ∃ L, L = p.toNat * 64 := ⟨_, rfl⟩
  have hL1 : p * 64 ≤ (L : Int) := by omega
  have hL2 : (L : Int) ≤ p * 64 := by omega
  have hLN : (p * 64).toNat = L := by omega
  rw [← hL] at ha
  have HL := Sh.mk hL
  clear hL
  obtain ⟨m0, hm0⟩ : ∃ m0 : List Int, m0 = List.replicate L 0 := ⟨_, rfl⟩
  have hm1 : p * 64 ≤ (m0.length : Int) := by rw [hm0, List.length_replicate]; exact hL1
  have hm2 : (m0.length : Int) ≤ p * 64 := by rw [hm0, List.length_replicate]; exact hL2
  rw [← hm0] at ha
  have hbf : ((m0.length : Int) != p * 64) = false := by rw [bne_eq_false_iff_eq]; omega
  have HA := Sh.mk ha
  have HM := Sh.mk hm0
  have HB := Sh.mk hb
  clear ha hm0 hb
  rw [hLN] at hmk
  have HLN := Sh.mk hLN
  clear hLN
  go_wp2_with (first | (go_at_call 23; (with_reducible refine (len_any ga gb m0 _ HA.out).mono ?_); rintro e w' ⟨rfl, rfl⟩))
  have hgm : w.heap.size ≤ w1.heap.size := HB.out.size
  have HA0 : Sh (Ar (w1.alloc (.cells (U64s (List.replicate L 0)) 28)) ga gb (laidM L ws 0)) := ⟨by rw [show laidM L ws 0 = m0 from by rw [HM.out]; rfl]; exact HA.out.kp ((Kp.refl [] _).alloc _) (by simp) (by simp)⟩
  have HC0 : Sh (Blk (w1.alloc (.cells (U64s (List.replicate L 0)) 28)) w1.heap.size 28 (U64s (laidM L ws 0))) := ⟨Blk.new _ _ _⟩
  have hne : w1.heap.size ≠ gb := by have := HA.out.ws.lt; omega
  have HNE := Sh.mk hne
  clear hne
  have HLE : Sh ((p.toNat * 64) = L) := ⟨HL.out.symm⟩
  go_loopw [8] (fun i wr => ∃ k : Nat, k ≤ min ws.length L ∧ i = .int .i64 k ∧ Sh (Ar wr ga gb (laidM L ws k)) ∧ Sh (Blk wr w1.heap.size 28 (U64s (laidM L ws k))) ∧ Sh (Below w.heap.size w wr)) (fun i _ => (min ws.length L) - (intOf i).toNat)
  case atStart => exact ⟨0, Nat.zero_le _, rfl, HA0, HC0, ⟨HB.out.alloc hgm _⟩⟩
  case round =>
    obtain ⟨k, hk, rfl, HAk, HCk, HBk⟩ := hrel
    by_cases hlt : k < min ws.length L
    · have hk1 : k < ws.length := by omega
      have hk2 : k < L := by omega
      obtain ⟨ad, rfl, hadl, hcell⟩ := C_cell HR.out k hk1
      have hadb : (ad.add k).block = ad.block := by unfold Addr.add; split <;> rfl
      have hcell' : wr.cell? (ad.add k) = some (.int .u64 (rd0 ws k)) := (HBk.out.cell (by rw [hadb]; exact hadl)).trans hcell
      have hold : wr.cell? ⟨w1.heap.size, k, none⟩ = some (.int .u64 (rd0 (laidM L ws k) k)) := by rw [HCk.out.cell]; exact U64s_at _ _ (by rw [laidM_len]; exact hk2)
      have hfz := HCk.out.frozen k
      have hcell2 : (wr.setCell ⟨w1.heap.size, k, none⟩ (.int .u64 (rd0 ws k))).cell? (ad.add k) = some (.int .u64 (rd0 ws k)) := by
        rw [World.cell?_setCell_other _ _ _ _ (by intro e; have := congrArg Addr.block e; rw [hadb] at this; simp at this; omega)]
        exact hcell'
      have HCk1 : Sh (Blk (wr.setCell ⟨w1.heap.size, k, none⟩ (.int .u64 (rd0 ws k))) w1.heap.size 28 (U64s (laidM L ws (k + 1)))) := ⟨by rw [laidM, ← U64s_set]; exact HCk.out.set_ k _⟩
      have HAk1 : Sh (Ar (wr.setCell ⟨w1.heap.size, k, none⟩ (.int .u64 (rd0 ws k))) ga gb (laidM L ws k)) := ⟨HAk.out.kp ((Kp.refl [w1.heap.size] _).set_ (by simp) _) (by have := HA.out.st.lt; simp; omega) (by have := HNE.out; simp; omega)⟩
      have HBk1 : Sh (Below w.heap.size w (wr.setCell ⟨w1.heap.size, k, none⟩ (.int .u64 (rd0 ws k)))) := ⟨HBk.out.setCell hgm _⟩
      have hbl : (k : Int) < ((laidM L ws k).length : Int) := by rw [laidM_len]; omega
      go_wp2_with (first | (go_at_call 26; (with_reducible refine (store_in ga gb _ _ _ _ HAk1.out ?hs0 ?hs1).mono ?_); (case hs0 => omega); (case hs1 => exact hbl); rintro e w' ⟨rfl, h5, h6⟩; have H5 := Sh.mk h5; have H6 := Sh.mk h6; clear h5 h6))
      go_roundw
      case rel =>
        refine ⟨k + 1, by omega, by go_num, ⟨?_⟩, ⟨?_⟩, ⟨?_⟩⟩
        · exact H5.out
        · exact HCk1.out.kp H6.out (by have := HNE.out; simp; omega)
        · exact HBk1.out.trans (H6.out.toBelow (by have := HBk1.out.size; exact this) (by simp; exact hgb))
      case measure => simp [intOf]; omega
    · obtain rfl : k = min ws.length L := by omega
      go_wp2
      all_goals go_ret2
      all_goals
        have HX := HLE.out
        rw [HX]
        exact ⟨ga, gb, w1.heap.size, by rw [laidM_len]; rfl, HAk.out, HCk.out, HNE.out, hga, hgb, hgm, HBk.out⟩
end Go.Proofs.Ytncmebefgklpjaa
