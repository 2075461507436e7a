/- The walk of the statement ArenaOwn: a slice is new memory; another arena has nothing in common with it; what is refused changes nothing. -/
import Derived.Test.YtncmebefgklpjaaDo2
namespace Go.Proofs.Ytncmebefgklpjaa
set_option linter.unusedVariables false
open Go.RowKit Go.Proofs.YtncmebefgklpjaaW.PrintWords Go.Proofs.YtncmebefgklpjaaW.PrintLast Go.Proofs.YtncmebefgklpjaaW.PrintMore

/-- What is behind ArenaOwn's first part, from the refused calls on: the number that is asked for is outside. -/
theorem own_refused (L : Nat) (far : Int) (hL : L = 128) (h : far < 0 ∨ 128 ≤ far) : ¬ (0 ≤ far ∧ far < L) := by omega

set_option maxRecDepth 100000 in
set_option maxHeartbeats 8000000 in
theorem arenaOwn_walk (A0 : Option Addr) (c0 : Nat) (l0 : List Int) (a1 a2 a3 : Int) (w : World) (hr0 : Kd.C (Kd.int .u64) w A0 l0.length l0) (hc0 : l0.length ≤ c0) (hw0 : ∀ x ∈ l0, (Lit.int .u64 x).wf = true) (y0 : l0.length * 8 ≤ 140737488351232)
    (w1 : (Lit.int .u8 a1).wf = true) (w2 : (Lit.int .u64 a2).wf = true) (w3 : (Lit.int .i64 a3).wf = true) :
    Calls Try.prog 7 #[.slice A0 l0.length c0, .int .u8 a1, .int .u64 a2, .int .i64 a3] w fun e w' => e = .returned (.bool true) ∧ Below w.heap.size w w' := by
  have ub : 0 ≤ a1 ∧ a1 ≤ 255 := by simpa [Lit.wf, IntKind.min, IntKind.max, IntKind.signed, IntKind.bits] using w1
  obtain ⟨b1, b1'⟩ := ub
  clear w1 w2 w3 hw0
  have HR := Sh.mk hr0
  have hl : l0.length ≤ 17592186044416 := by omega
  have HNil : ∀ W : World, Kd.C (Kd.int .u64) W none ([] : List Int).length ([] : List Int) := fun W => ⟨rfl, by simp, fun h => absurd h (by simp)⟩
  have HLD : Sh (∀ W : World, Calls Try.prog 15 #[.int .i64 2, .slice none 0 0] W (LaidPost (laidM ((2 : Int).toNat * 64) [] (min ([] : List Int).length ((2 : Int).toNat * 64))) W)) := ⟨fun W => laid_any 2 none 0 [] W (by omega) (by omega) (HNil W) (by simp)⟩
  clear hr0 y0 HNil
  -- the number that is asked for, behind the test
  obtain ⟨far, hfar⟩ : ∃ far, far = if 0 ≤ a3 ∧ a3 < 128 then -1 - a3 else a3 := ⟨_, rfl⟩
  have hfo : far < 0 ∨ 128 ≤ far := by rw [hfar]; split <;> omega
  have HFO := Sh.mk hfo
  clear hfo
  go_enter Try.func7, Try.ntmps7
  go_wp2_with fail
  (with_reducible refine (laid_any 2 A0 c0 l0 w (by omega) (by omega) HR.out hl).mono ?_); rintro e w1 ⟨ga, gb, gm, rfl, h1, h2, h3, h4, h5, h6, h7⟩
  obtain ⟨m, hm⟩ : ∃ m, m = laidM ((2 : Int).toNat * 64) l0 (min l0.length ((2 : Int).toNat * 64)) := ⟨_, rfl⟩
  rw [← hm] at h1 h2
  have hml : m.length = 128 := by rw [hm, laidM_len]; rfl
  rw [← hm, hml]
  have HT : Sh (Twin w1 ga gb gm m) := ⟨⟨h1, h2, h3⟩⟩
  have H7 := Sh.mk h7
  have HML := Sh.mk hml
  clear h1 h2 h7 hm hml
  go_wp2_with fail
  (refine (HLD.out _).mono ?_); rintro e w2 ⟨ha, hb, hz, rfl, h1, h2, g3, g4, g5, g6, h7⟩
  obtain ⟨z, hz'⟩ : ∃ z, z = laidM ((2 : Int).toNat * 64) ([] : List Int) (min ([] : List Int).length ((2 : Int).toNat * 64)) := ⟨_, rfl⟩
  rw [← hz'] at h1 h2
  have hzl : z.length = 128 := by rw [hz', laidM_len]; rfl
  rw [← hz', hzl]
  have HT2 : Sh (Twin w2 ga gb gm m) := ⟨HT.out.kp (Kp.of_below h7 []) (by simp) (by simp) (by simp)⟩
  have HU2 : Sh (Twin w2 ha hb hz z) := ⟨⟨h1, h2, g3⟩⟩
  have HZL := Sh.mk hzl
  have HB2 : Sh (Below w.heap.size w w2) := ⟨below_then H7.out H7.out.size h7⟩
  have HS2 : w.heap.size ≤ w2.heap.size := HB2.out.size
  clear h1 h2 h7 hz' hzl HLD
  have hT1 : Sh (There m.length (a1 % 128) 1) := ⟨by rw [HML.out]; exact ⟨by omega, by omega, by omega, by omega⟩⟩
  go_wp2_with fail
  (with_reducible refine (slice_in ga gb m _ _ _ HT2.out.ar hT1.out).mono ?_); rintro e w3 ⟨u, rfl, q1, q2⟩
  obtain ⟨l, hl'⟩ : ∃ l, l = (m.drop (a1 % 128).toNat).take (1 : Int).toNat := ⟨_, rfl⟩
  rw [← hl'] at q1
  have hll : l.length = 1 := by rw [hl']; have := HML.out; simp; omega
  obtain ⟨hok, inner, hown, hreps⟩ := q1
  rw [hll] at hown
  obtain ⟨gu, cap, cur, rfl, hgu, hheap, hcap, hcm, hcs, hct⟩ : ∃ g cap cur, u = .slice (some ⟨g, 0, none⟩) 1 cap ∧ w2.heap.size ≤ g ∧ w3.heap[g]? = some (.cells cur 28 (0, 0)) ∧ 1 ≤ cap ∧ cap ≤ maxLen ∧ cur.size = cap * (Kd.int .u64).sz ∧ cur.toList.take (1 * (Kd.int .u64).sz) = inner := by
    rcases hown.2 with ⟨_, h0⟩ | h0
    · cases h0
    · exact h0
  have hblk : Blk w3 gu 28 cur := hheap
  have hcs1 : 0 < cur.size := by rw [hcs]; show 0 < cap * 1; omega
  obtain ⟨x0, hx0⟩ : ∃ x, cur[0]? = some x := ⟨cur[0], Array.getElem?_eq_getElem hcs1⟩
  have hcell : w3.cell? ⟨gu, 0, none⟩ = some x0 := by rw [hblk.cell]; exact hx0
  have hfz := hblk.frozen 0
  have HQ2 := Sh.mk q2
  have HT4 : Sh (Twin (w3.setCell ⟨gu, 0, none⟩ (.int .u64 a2)) ga gb gm m) := by
    have e1 := HT2.out.ar.st.lt
    have e2 := HT2.out.ar.ws.lt
    have e3 := HT2.out.ls.lt
    exact ⟨HT2.out.kp (S := [gu]) ((Kp.of_below q2 _).set_ (by simp) _) (by simp; omega) (by simp; omega) (by simp; omega)⟩
  have HU4 : Sh (Twin (w3.setCell ⟨gu, 0, none⟩ (.int .u64 a2)) ha hb hz z) := by
    have e1 := HU2.out.ar.st.lt
    have e2 := HU2.out.ar.ws.lt
    have e3 := HU2.out.ls.lt
    exact ⟨HU2.out.kp (S := [gu]) ((Kp.of_below q2 _).set_ (by simp) _) (by simp; omega) (by simp; omega) (by simp; omega)⟩
  have HB4 : Sh (Below w.heap.size w (w3.setCell ⟨gu, 0, none⟩ (.int .u64 a2))) := ⟨(below_then HB2.out HB2.out.size q2).setCell (by show w.heap.size ≤ gu; omega) _⟩
  clear hok hown hreps hct hcm hll hl' hheap hcap hcs hblk hx0 q2 hcs1
  have hsz3 : w.heap.size ≤ (w3.setCell ⟨gu, 0, none⟩ (.int .u64 a2)).heap.size := HB4.out.size
  by_cases hin : 0 ≤ a3 ∧ a3 < 128
  · obtain ⟨hin1, hin2⟩ := hin
    have HF : Sh (far = -1 - a3) := ⟨by rw [hfar, if_pos ⟨hin1, hin2⟩]⟩
    clear hfar
    have HO : Sh (¬ (0 ≤ (-1 - a3) ∧ (-1 - a3) < (m.length : Int))) := ⟨by rw [HML.out]; have := HFO.out; rw [HF.out] at this; omega⟩
    have HO1 : Sh (¬ There m.length ((-1 - a3)) 1) := ⟨fun hh => HO.out (by unfold There at hh; omega)⟩
    have HO2 : Sh (¬ (There m.length ((-1 - a3)) 1 ∧ There m.length 0 1)) := ⟨fun hh => HO1.out hh.1⟩
    have HO3 : Sh (¬ (There m.length 0 1 ∧ There m.length ((-1 - a3)) 1)) := ⟨fun hh => HO1.out hh.2⟩
    have HO4 : Sh (¬ There m.length 0 (-1)) := ⟨fun hh => by unfold There at hh; omega⟩
    have HO5 : Sh (¬ There m.length 0 129) := ⟨fun hh => by unfold There at hh; rw [HML.out] at hh; omega⟩
    go_wp2_with fail
    (with_reducible refine (store_out ga gb m _ _ _ HT4.out.ar HO.out).mono ?_); rintro e w' ⟨rfl, rfl⟩
    go_wp2_with fail
    (with_reducible refine (fill_out ga gb m _ _ _ _ HT4.out.ar HO1.out).mono ?_); rintro e w' ⟨rfl, rfl⟩
    go_wp2_with fail
    (with_reducible refine (copy_out ga gb m _ _ _ _ HT4.out.ar HO2.out).mono ?_); rintro e w' ⟨rfl, rfl⟩
    go_wp2_with fail
    (with_reducible refine (copy_out ga gb m _ _ _ _ HT4.out.ar HO3.out).mono ?_); rintro e w' ⟨rfl, rfl⟩
    go_wp2_with fail
    (with_reducible refine (fill_out ga gb m _ _ _ _ HT4.out.ar HO4.out).mono ?_); rintro e w' ⟨rfl, rfl⟩
    go_wp2_with fail
    (with_reducible refine (fill_out ga gb m _ _ _ _ HT4.out.ar HO5.out).mono ?_); rintro e w' ⟨rfl, rfl⟩
    have HW : Sh (Calls Try.prog 20 #[.pointer (some ⟨ga, 0, none⟩), .slice (some ⟨gm, 0, none⟩) 128 128] (w3.setCell ⟨gu, 0, none⟩ (.int .u64 a2)) fun e w' => e = .returned (.bool true) ∧ Below (w3.setCell ⟨gu, 0, none⟩ (.int .u64 a2)).heap.size (w3.setCell ⟨gu, 0, none⟩ (.int .u64 a2)) w') := by
      have := words_yes ga gb m _ m.length _ HT4.out.ar (C_whole HT4.out.ls (by rw [HML.out]; omega)) (Nat.le_refl _)
      rw [HML.out] at this
      exact ⟨this⟩
    go_wp2_with fail
    (refine HW.out.mono ?_); rintro e w5 ⟨rfl, k1⟩
    have HU5 : Sh (Twin w5 ha hb hz z) := ⟨HU4.out.kp (Kp.of_below k1 []) (by simp) (by simp) (by simp)⟩
    have HB5 : Sh (Below w.heap.size w w5) := ⟨below_then HB4.out HB4.out.size k1⟩
    have HW2 : Sh (Calls Try.prog 20 #[.pointer (some ⟨ha, 0, none⟩), .slice (some ⟨hz, 0, none⟩) 128 128] w5 fun e w' => e = .returned (.bool true) ∧ Below w5.heap.size w5 w') := by
      have := words_yes ha hb z _ z.length _ HU5.out.ar (C_whole HU5.out.ls (by rw [HZL.out]; omega)) (Nat.le_refl _)
      rw [HZL.out] at this
      exact ⟨this⟩
    clear k1 HW
    go_wp2_with fail
    (refine HW2.out.mono ?_); rintro e w6 ⟨rfl, k2⟩
    have HB6 : Sh (Below w.heap.size w w6) := ⟨below_then HB5.out HB5.out.size k2⟩
    clear k2 HW2
    go_wp2_with fail
    (with_reducible refine (awake3 _).mono ?_); rintro e w7 ⟨rfl, h12⟩
    have H12 := Sh.mk h12
    clear h12
    go_wp2
    go_ret
    exact ⟨rfl, below_then HB6.out HB6.out.size H12.out⟩
  · have HF : Sh (far = a3) := ⟨by rw [hfar, if_neg hin]⟩
    clear hfar
    by_cases hin1 : 0 ≤ a3
    · have hin2 : 128 ≤ a3 := by omega
      clear hin
      have HO : Sh (¬ (0 ≤ a3 ∧ a3 < (m.length : Int))) := ⟨by rw [HML.out]; have := HFO.out; rw [HF.out] at this; omega⟩
      have HO1 : Sh (¬ There m.length (a3) 1) := ⟨fun hh => HO.out (by unfold There at hh; omega)⟩
      have HO2 : Sh (¬ (There m.length (a3) 1 ∧ There m.length 0 1)) := ⟨fun hh => HO1.out hh.1⟩
      have HO3 : Sh (¬ (There m.length 0 1 ∧ There m.length (a3) 1)) := ⟨fun hh => HO1.out hh.2⟩
      have HO4 : Sh (¬ There m.length 0 (-1)) := ⟨fun hh => by unfold There at hh; omega⟩
      have HO5 : Sh (¬ There m.length 0 129) := ⟨fun hh => by unfold There at hh; rw [HML.out] at hh; omega⟩
      go_wp2_with fail
      (with_reducible refine (store_out ga gb m _ _ _ HT4.out.ar HO.out).mono ?_); rintro e w' ⟨rfl, rfl⟩
      go_wp2_with fail
      (with_reducible refine (fill_out ga gb m _ _ _ _ HT4.out.ar HO1.out).mono ?_); rintro e w' ⟨rfl, rfl⟩
      go_wp2_with fail
      (with_reducible refine (copy_out ga gb m _ _ _ _ HT4.out.ar HO2.out).mono ?_); rintro e w' ⟨rfl, rfl⟩
      go_wp2_with fail
      (with_reducible refine (copy_out ga gb m _ _ _ _ HT4.out.ar HO3.out).mono ?_); rintro e w' ⟨rfl, rfl⟩
      go_wp2_with fail
      (with_reducible refine (fill_out ga gb m _ _ _ _ HT4.out.ar HO4.out).mono ?_); rintro e w' ⟨rfl, rfl⟩
      go_wp2_with fail
      (with_reducible refine (fill_out ga gb m _ _ _ _ HT4.out.ar HO5.out).mono ?_); rintro e w' ⟨rfl, rfl⟩
      have HW : Sh (Calls Try.prog 20 #[.pointer (some ⟨ga, 0, none⟩), .slice (some ⟨gm, 0, none⟩) 128 128] (w3.setCell ⟨gu, 0, none⟩ (.int .u64 a2)) fun e w' => e = .returned (.bool true) ∧ Below (w3.setCell ⟨gu, 0, none⟩ (.int .u64 a2)).heap.size (w3.setCell ⟨gu, 0, none⟩ (.int .u64 a2)) w') := by
        have := words_yes ga gb m _ m.length _ HT4.out.ar (C_whole HT4.out.ls (by rw [HML.out]; omega)) (Nat.le_refl _)
        rw [HML.out] at this
        exact ⟨this⟩
      go_wp2_with fail
      (refine HW.out.mono ?_); rintro e w5 ⟨rfl, k1⟩
      have HU5 : Sh (Twin w5 ha hb hz z) := ⟨HU4.out.kp (Kp.of_below k1 []) (by simp) (by simp) (by simp)⟩
      have HB5 : Sh (Below w.heap.size w w5) := ⟨below_then HB4.out HB4.out.size k1⟩
      have HW2 : Sh (Calls Try.prog 20 #[.pointer (some ⟨ha, 0, none⟩), .slice (some ⟨hz, 0, none⟩) 128 128] w5 fun e w' => e = .returned (.bool true) ∧ Below w5.heap.size w5 w') := by
        have := words_yes ha hb z _ z.length _ HU5.out.ar (C_whole HU5.out.ls (by rw [HZL.out]; omega)) (Nat.le_refl _)
        rw [HZL.out] at this
        exact ⟨this⟩
      clear k1 HW
      go_wp2_with fail
      (refine HW2.out.mono ?_); rintro e w6 ⟨rfl, k2⟩
      have HB6 : Sh (Below w.heap.size w w6) := ⟨below_then HB5.out HB5.out.size k2⟩
      clear k2 HW2
      go_wp2_with fail
      (with_reducible refine (awake3 _).mono ?_); rintro e w7 ⟨rfl, h12⟩
      have H12 := Sh.mk h12
      clear h12
      go_wp2
      go_ret
      exact ⟨rfl, below_then HB6.out HB6.out.size H12.out⟩
    · clear hin
      have HO : Sh (¬ (0 ≤ a3 ∧ a3 < (m.length : Int))) := ⟨by rw [HML.out]; have := HFO.out; rw [HF.out] at this; omega⟩
      have HO1 : Sh (¬ There m.length (a3) 1) := ⟨fun hh => HO.out (by unfold There at hh; omega)⟩
      have HO2 : Sh (¬ (There m.length (a3) 1 ∧ There m.length 0 1)) := ⟨fun hh => HO1.out hh.1⟩
      have HO3 : Sh (¬ (There m.length 0 1 ∧ There m.length (a3) 1)) := ⟨fun hh => HO1.out hh.2⟩
      have HO4 : Sh (¬ There m.length 0 (-1)) := ⟨fun hh => by unfold There at hh; omega⟩
      have HO5 : Sh (¬ There m.length 0 129) := ⟨fun hh => by unfold There at hh; rw [HML.out] at hh; omega⟩
      go_wp2_with fail
      (with_reducible refine (store_out ga gb m _ _ _ HT4.out.ar HO.out).mono ?_); rintro e w' ⟨rfl, rfl⟩
      go_wp2_with fail
      (with_reducible refine (fill_out ga gb m _ _ _ _ HT4.out.ar HO1.out).mono ?_); rintro e w' ⟨rfl, rfl⟩
      go_wp2_with fail
      (with_reducible refine (copy_out ga gb m _ _ _ _ HT4.out.ar HO2.out).mono ?_); rintro e w' ⟨rfl, rfl⟩
      go_wp2_with fail
      (with_reducible refine (copy_out ga gb m _ _ _ _ HT4.out.ar HO3.out).mono ?_); rintro e w' ⟨rfl, rfl⟩
      go_wp2_with fail
      (with_reducible refine (fill_out ga gb m _ _ _ _ HT4.out.ar HO4.out).mono ?_); rintro e w' ⟨rfl, rfl⟩
      go_wp2_with fail
      (with_reducible refine (fill_out ga gb m _ _ _ _ HT4.out.ar HO5.out).mono ?_); rintro e w' ⟨rfl, rfl⟩
      have HW : Sh (Calls Try.prog 20 #[.pointer (some ⟨ga, 0, none⟩), .slice (some ⟨gm, 0, none⟩) 128 128] (w3.setCell ⟨gu, 0, none⟩ (.int .u64 a2)) fun e w' => e = .returned (.bool true) ∧ Below (w3.setCell ⟨gu, 0, none⟩ (.int .u64 a2)).heap.size (w3.setCell ⟨gu, 0, none⟩ (.int .u64 a2)) w') := by
        have := words_yes ga gb m _ m.length _ HT4.out.ar (C_whole HT4.out.ls (by rw [HML.out]; omega)) (Nat.le_refl _)
        rw [HML.out] at this
        exact ⟨this⟩
      go_wp2_with fail
      (refine HW.out.mono ?_); rintro e w5 ⟨rfl, k1⟩
      have HU5 : Sh (Twin w5 ha hb hz z) := ⟨HU4.out.kp (Kp.of_below k1 []) (by simp) (by simp) (by simp)⟩
      have HB5 : Sh (Below w.heap.size w w5) := ⟨below_then HB4.out HB4.out.size k1⟩
      have HW2 : Sh (Calls Try.prog 20 #[.pointer (some ⟨ha, 0, none⟩), .slice (some ⟨hz, 0, none⟩) 128 128] w5 fun e w' => e = .returned (.bool true) ∧ Below w5.heap.size w5 w') := by
        have := words_yes ha hb z _ z.length _ HU5.out.ar (C_whole HU5.out.ls (by rw [HZL.out]; omega)) (Nat.le_refl _)
        rw [HZL.out] at this
        exact ⟨this⟩
      clear k1 HW
      go_wp2_with fail
      (refine HW2.out.mono ?_); rintro e w6 ⟨rfl, k2⟩
      have HB6 : Sh (Below w.heap.size w w6) := ⟨below_then HB5.out HB5.out.size k2⟩
      clear k2 HW2
      go_wp2_with fail
      (with_reducible refine (awake3 _).mono ?_); rintro e w7 ⟨rfl, h12⟩
      have H12 := Sh.mk h12
      clear h12
      go_wp2
      go_ret
      exact ⟨rfl, below_then HB6.out HB6.out.size H12.out⟩
end Go.Proofs.Ytncmebefgklpjaa
