/- Add of a pool; New: contracts. No statement is proved here. -/
import Derived.Test.YtmmpdpnonnjadaaPoolAdd
import Derived.BigRegion
namespace Go.Proofs.Ytmmpdpnonnjadaa
set_option linter.unusedVariables false
set_option linter.unusedSimpArgs false
open Go.RowKit Go.Proofs.YtmmpdpnonnjadaaW.PrintWords Go.Proofs.YtmmpdpnonnjadaaW.PrintLast Go.Proofs.YtmmpdpnonnjadaaW.PrintMore Pr

theorem insert_sp (v : Value) (n i : Nat) (xs ys : List Value) (gx : Nat) (w : World) (hown : w.ownsRow 0 63 4 v n xs) (hx : Blk w gx 63 ys.toArray) (hyl : ys.length = 4) (hne : v.ownBlock ≠ some gx)
    (h1x : ∀ u ∈ xs, u.oneCell' = true) (h1y : ∀ u ∈ ys, u.oneCell' = true) (hi : i ≤ n) (hn : (n + 1) * 48 ≤ 140737488355328) :
    Calls Try.prog 28 #[v, .int .i64 i, .slice (some ⟨gx, 0, none⟩) 1 1] w (Inserted_sp 0 v n i xs ys w) := by
  have hx' : Blk w gx 63 (ys ++ []).toArray := by rw [List.append_nil]; exact hx
  by_cases hlt : i < n
  · rcases hown.2 with ⟨_, h0⟩ | ⟨g, cap, cur, rfl, _, _, hnc, _⟩
    · omega
    · by_cases hroom : n + 1 ≤ cap
      · exact insert_room_sp 0 g cap n i xs ys [] gx 1 w hown hx' hyl (fun e => hne (by rw [e]; rfl)) h1x h1y hlt hroom
      · exact insert_grow_sp 0 g cap n i xs ys [] gx 1 w hown hx' hyl h1x h1y hlt (by omega) hn (by omega)
  · obtain rfl : i = n := by omega
    exact insert_end_sp 0 v i xs ys [] gx 1 w hown hx' hyl h1y hn (by omega)
theorem info_bool : (Try.prog.info? 4).map (fun i => (i.zero, i.size, i.bytes)) = some (some (.bool false), 1, 1) := by kernel_rfl
theorem bls_none (c page : Int) : bls c ⟨page, []⟩ = (List.replicate (perC c) (Value.bool false)).toArray := by
  unfold bls
  congr 1
  apply List.ext_getElem
  · simp
  · intro i h1 h2; simp
theorem run_make_bool (n : Nat) (h1 : n ≤ 1000) (w : World) :
    (Instr.makeSlice 27 (.int .i64 (n : Int)) (.int .i64 (n : Int))).run Try.prog w = .ok (.slice (some ⟨w.heap.size, 0, none⟩) n n) (w.alloc (.cells (List.replicate n (Value.bool false)).toArray 4)) := by
  obtain ⟨i0, hi0, hz0, hz1, hz2⟩ := info_parts info_bool
  have hr := run_make_rowN (P := Try.prog) 27 4 i0 (.bool false) Try.underlying27 hi0 hz0 .i64 .i64 n n (Nat.le_refl _) (by rw [hz2]; omega) (by omega) w
  rw [hr, hz1, Nat.mul_one, show (Value.bool false).cells = #[.bool false] from rfl, madeCells_one]
set_option maxHeartbeats 400000 in
theorem new_pool (c : Int) (w : World) (h : 0 ≤ c ∧ c ≤ 3) :
    Calls Try.prog 10 #[.int .i64 c] w fun e w' => ∃ gp, e = .returned (.pointer (some ⟨gp, 0, none⟩)) ∧ Blk w' gp 61 #[.int .i64 c, .slice none 0 0] ∧ w.heap.size ≤ gp ∧ Below w.heap.size w w' := by
  have HS : Sh (Calls Try.prog 23 #[.int .i64 c] w fun e w' => e = .returned (.bool true) ∧ Below w.heap.size w w') := ⟨by
    have h1 := small_sz c w
    have h2 : decide (0 < (sizeRow c).2.2.2) = true := by rcases (show c = 0 ∨ c = 1 ∨ c = 2 ∨ c = 3 by omega) with rfl | rfl | rfl | rfl <;> rfl
    rw [h2] at h1
    exact h1⟩
  have hu := Try.underlying61
  go_enter Try.func10, Try.ntmps10
  go_wp2_with fail
  (with_reducible refine HS.out.mono ?_); rintro e w1 ⟨rfl, hb⟩
  have HB := Sh.mk hb
  clear hb
  go_wp2
  go_ret
  exact ⟨w1.heap.size, rfl, Blk.new _ _ _, HB.out.size, below_alloc HB.out _⟩
set_option maxHeartbeats 400000 in
theorem new_pool_no (c : Int) (w : World) (h : ¬ (0 ≤ c ∧ c ≤ 3)) :
    Calls Try.prog 10 #[.int .i64 c] w fun e w' => e = .returned (.pointer none) ∧ Below w.heap.size w w' := by
  have HS : Sh (Calls Try.prog 23 #[.int .i64 c] w fun e w' => e = .returned (.bool false) ∧ Below w.heap.size w w') := ⟨by
    have h1 := small_sz c w
    have h2 : decide (0 < (sizeRow c).2.2.2) = false := by
      have : (sizeRow c).2.2.2 = 0 := by
        unfold sizeRow
        rw [if_neg (by omega), if_neg (by omega), if_neg (by omega), if_neg (by omega)]
        repeat' split
        all_goals rfl
      rw [this]; rfl
    rw [h2] at h1
    exact h1⟩
  go_enter Try.func10, Try.ntmps10
  go_wp2_with fail
  (with_reducible refine HS.out.mono ?_); rintro e w1 ⟨rfl, hb⟩
  have HB := Sh.mk hb
  clear hb h
  go_wp2
  go_ret
  exact ⟨rfl, HB.out⟩
/-- A pool without spans. -/
theorem PSt.nil {ga gb gp : Nat} {c : Int} {N : Nat} {M : List Int} {W : World} (har : Ar W ga gb M) (ml : M.length = N * 64) (hp : Blk W gp 61 #[.int .i64 c, .slice none 0 0]) (hc : 0 ≤ c ∧ c ≤ 3) (hn : 1 ≤ N ∧ N ≤ 256) :
    PSt (fun k => k = ga ∨ k = gb ∨ k = gp) ga gp c N [] W :=
  ⟨gb, M, [], .slice none 0 0, rfl, ⟨har, ml, hp, ⟨rfl, .inl ⟨rfl, rfl⟩⟩, by simp, by simp, by simp, ⟨by simp, by simp⟩, hc, hn, ⟨.inl rfl, .inr (.inl rfl), .inr (.inr rfl)⟩, fun k hk => by simp [Value.ownBlock] at hk, by simp, fun k hk => by
    rcases hk with rfl | rfl | rfl
    · exact har.st.lt
    · exact har.ws.lt
    · exact hp.lt⟩⟩
end Go.Proofs.Ytmmpdpnonnjadaa
