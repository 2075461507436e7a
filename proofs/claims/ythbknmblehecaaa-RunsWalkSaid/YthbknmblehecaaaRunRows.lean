/- Rows of api.Run as rows of cells. No statement is proved here. -/
import Derived.Test.YthbknmblehecaaaIns3Run
import Derived.Test.YthbknmblehecaaaDelRun
namespace Go.Proofs.Ythbknmblehecaaa
set_option linter.unusedVariables false
set_option linter.unusedSimpArgs false
open Go.RowKit Go.Proofs.YthbknmblehecaaaW.PrintWords Go.Proofs.YthbknmblehecaaaW.PrintLast Go.Proofs.YthbknmblehecaaaW.PrintMore Pr

/-- The cells of a list. -/
def encs_run : List S32 → List Value
  | [] => []
  | x :: l => .int .i64 x.f0 :: .int .i64 x.f1 :: encs_run l
theorem encs_len_run (l : List S32) : (encs_run l).length = l.length * 2 := by
  induction l with
  | nil => rfl
  | cons x l ih => simp only [encs_run, List.length_cons, ih]; omega
theorem encs_append_run (a b : List S32) : encs_run (a ++ b) = encs_run a ++ encs_run b := by
  induction a with
  | nil => rfl
  | cons x l ih => simp [encs_run, ih]
theorem encs_take_run (l : List S32) (i : Nat) : (encs_run l).take (i * 2) = encs_run (l.take i) := by
  induction l generalizing i with
  | nil => simp [encs_run]
  | cons x l ih =>
    cases i with
    | zero => simp [encs_run]
    | succ i =>
      rw [show (i + 1) * 2 = i * 2 + 1 + 1 by omega]
      simp [encs_run, ih]
theorem encs_drop_run (l : List S32) (i : Nat) : (encs_run l).drop (i * 2) = encs_run (l.drop i) := by
  induction l generalizing i with
  | nil => simp [encs_run]
  | cons x l ih =>
    cases i with
    | zero => simp [encs_run]
    | succ i =>
      rw [show (i + 1) * 2 = i * 2 + 1 + 1 by omega]
      simp [encs_run, ih]
theorem encs_one_run (l : List S32) : ∀ u ∈ encs_run l, u.oneCell' = true := by
  induction l with
  | nil => simp [encs_run]
  | cons x l ih =>
    intro u hu
    simp only [encs_run, List.mem_cons] at hu
    rcases hu with rfl | rfl | hu
    · rfl
    · rfl
    · exact ih u hu
theorem reps_encs_run (R : S32 → List Value → Prop) (hR : ∀ x cs, R x cs → cs = [.int .i64 x.f0, .int .i64 x.f1]) : ∀ (l : List S32) (cs : List Value), Reps R 2 l cs → cs = encs_run l
  | [], cs, h => by
    have := h.1
    exact List.eq_nil_of_length_eq_zero (by simpa using this)
  | x :: l, cs, h => by
    have hl := h.1
    have h0 := hR x _ (h.2 0 x rfl)
    simp only [Nat.zero_mul, List.drop_zero] at h0
    have hrest := reps_encs_run R hR l (cs.drop 2) ⟨by rw [List.length_drop, hl]; simp only [List.length_cons]; omega, fun j p hj => by
      have := h.2 (j + 1) p (by simpa using hj)
      rw [show (j + 1) * 2 = 2 + j * 2 by omega, ← List.drop_drop] at this
      exact this⟩
    rw [← List.take_append_drop 2 cs, h0, hrest]
    rfl
theorem encs_reps_run (R : S32 → List Value → Prop) (hR : ∀ x, R x [.int .i64 x.f0, .int .i64 x.f1]) (l : List S32) : Reps R 2 l (encs_run l) := by
  refine ⟨encs_len_run l, fun j p hj => ?_⟩
  have hj' := (List.getElem?_eq_some_iff.1 hj).1
  have e := (List.getElem?_eq_some_iff.1 hj).2
  rw [encs_drop_run, List.drop_eq_getElem_cons hj', e]
  exact hR p
theorem own_of_R_run {e : TypeId} {w : World} {base : Nat} {ok : Nat → Prop} {v : Value} {l : List S32} (h : Kd.R k32 e w base ok v l) : w.ownsRow base e 2 v l.length (encs_run l) := by
  obtain ⟨_, inner, ho, hr⟩ := h
  rw [reps_encs_run _ (fun x cs h => k32_openM h) l inner hr] at ho
  exact ho
theorem R_of_ownE_run {e : TypeId} {w : World} {base : Nat} {ok : Nat → Prop} {v : Value} {l : List S32} (h : w.ownsRow base e 2 v l.length (encs_run l)) (hok : ∀ k, v.ownBlock = some k → ok k) : Kd.R k32 e w base ok v l :=
  ⟨hok, encs_run l, h, encs_reps_run _ (fun x => k32_mkM _ _ _ x) l⟩
/-- An own row that is not empty: its block. -/
theorem R_block_run {e : TypeId} {w : World} {base : Nat} {ok : Nat → Prop} {v : Value} {l : List S32} (h : Kd.R k32 e w base ok v l) (hl : 0 < l.length) :
    ∃ g c cl, v = .slice (some ⟨g, 0, none⟩) l.length c ∧ base ≤ g ∧ ok g ∧ Blk w g e (List.toArray cl) ∧ l.length ≤ c ∧ cl.length = c * 2 ∧ cl.take (l.length * 2) = encs_run l := by
  have ho := own_of_R_run h
  rcases ho.2 with ⟨_, h0⟩ | ⟨g, cap, cur, rfl, hbg, hg, hnc, hcm, hcs, htk⟩
  · omega
  · exact ⟨g, cap, cur.toList, rfl, hbg, h.1 g rfl, by simpa [Blk] using hg, hnc, by simpa using hcs, htk⟩
theorem ownBlock_base_run {e : TypeId} {w : World} {base : Nat} {ok : Nat → Prop} {v : Value} {l : List S32} (h : Kd.R k32 e w base ok v l) : ∀ k, v.ownBlock = some k → base ≤ k := by
  intro k hk
  rcases (own_of_R_run h).2 with ⟨rfl, _⟩ | ⟨g, cap, cur, rfl, hbg, hg, hnc, hcm, hcs, htk⟩
  · cases hk
  · cases hk; exact hbg

/-- Insert of one element at i. -/
theorem insert_R_run (base : Nat) (ok : Nat → Prop) (v : Value) (l : List S32) (i : Nat) (p : S32) (gx cx : Nat) (zs : List Value) (w : World) (h : Kd.R k32 32 w base ok v l) (hx : Blk w gx 32 (([.int .i64 p.f0, .int .i64 p.f1] : List Value) ++ zs).toArray) (hne : v.ownBlock ≠ some gx)
    (hi : i ≤ l.length) (hn : (l.length + 1) * 16 ≤ 140737488355328) (hbase : base ≤ w.heap.size) (hnew : ∀ b, w.heap.size ≤ b → ok b) :
    Calls Try.prog 46 #[v, .int .i64 i, .slice (some ⟨gx, 0, none⟩) 1 cx] w fun e w' =>
      ∃ v', e = .returned v' ∧ Kd.R k32 32 w' base ok v' (l.take i ++ [p] ++ l.drop i) ∧ w.grownBy w' v.ownBlock ∧ (v'.ownBlock = v.ownBlock ∨ ∃ b, v'.ownBlock = some b ∧ w.heap.size ≤ b) := by
  have ho := own_of_R_run h
  have hx' : Blk w gx 32 (encs_run [p] ++ zs).toArray := hx
  have key : Calls Try.prog 46 #[v, .int .i64 i, .slice (some ⟨gx, 0, none⟩) 1 cx] w (Inserted_run base v l.length i (encs_run l) (encs_run [p]) w) := by
    by_cases hlt : i < l.length
    · obtain ⟨A, c, rfl⟩ := Kd.R_slice h
      rcases ho.2 with ⟨_, h0⟩ | ⟨g, cap, cur, hv, _, _, hnc, _⟩
      · omega
      · simp only [Value.slice.injEq] at hv
        obtain ⟨rfl, _, rfl⟩ := hv
        by_cases hroom : l.length + 1 ≤ c
        · exact insert_room_run base g c l.length i (encs_run l) (encs_run [p]) zs gx cx w ho hx' rfl (fun e => hne (by rw [e]; rfl)) (encs_one_run l) (encs_one_run [p]) hlt hroom
        · exact insert_grow_run base g c l.length i (encs_run l) (encs_run [p]) zs gx cx w ho hx' rfl (encs_one_run l) (encs_one_run [p]) hlt (by omega) hn hbase
    · obtain rfl : i = l.length := by omega
      exact insert_end_run base v l.length (encs_run l) (encs_run [p]) zs gx cx w ho hx' rfl (encs_one_run [p]) hn hbase
  refine key.mono ?_
  rintro e w' ⟨v', rfl, h1, h2, h3⟩
  refine ⟨v', rfl, R_of_ownE_run ?_ ?_, h2, h3⟩
  · rw [encs_take_run, encs_drop_run, ← encs_append_run, ← encs_append_run] at h1
    have hl : (l.take i ++ [p] ++ l.drop i).length = l.length + 1 := by simp; omega
    rw [hl]; exact h1
  · intro k hk
    rcases h3 with h4 | ⟨b, h4, h5⟩
    · exact h.1 k (by rw [← h4]; exact hk)
    · rw [hk] at h4
      cases h4
      exact hnew k h5
/-- Insert, as the print's walks ask it: both rows are handed over. -/
def ins_run (l : List S32) (i : Int) (m : List S32) : Option (List S32) := if m.length = 1 ∧ 0 ≤ i ∧ i ≤ l.length ∧ (l.length + 1) * 16 ≤ 140737488355328 then some (l.take i.toNat ++ m ++ l.drop i.toNat) else none
theorem insertOwn_run (P0 : Nat → Prop) (u0 : Value) (l0 : List S32) (a1 : Int) (P2 : Nat → Prop) (u2 : Value) (l2 r : List S32) (w0 w : World) (hB : Below w0.heap.size w0 w) (h0 : Kd.R k32 32 w w0.heap.size P0 u0 l0) (h02 : ∀ k_, P0 k_ → ¬ P2 k_) (h2 : Kd.R k32 32 w w0.heap.size P2 u2 l2) (h : ins_run l0 a1 l2 = some r) :
    Calls Try.prog 46 #[u0, .int .i64 a1, u2] w fun e w' => ∃ v0_ : Value, e = .returned (v0_) ∧ Kd.R k32 32 w' w0.heap.size (fun k_ => ((P0 k_ ∨ P2 k_) ∨ w.heap.size ≤ k_)) v0_ r ∧ Below w0.heap.size w0 w' ∧ Kept w w' (fun k_ => P0 k_ ∨ P2 k_) := by
  unfold ins_run at h
  split at h
  next hc =>
    obtain ⟨h1, ha, hb, hn⟩ := hc
    obtain rfl := Option.some.inj h
    obtain ⟨p, rfl⟩ : ∃ p, l2 = [p] := by
      rcases l2 with _ | ⟨p, _ | _⟩
      · cases h1
      · exact ⟨p, rfl⟩
      · simp at h1
    obtain ⟨i, rfl⟩ := Int.eq_ofNat_of_zero_le ha
    obtain ⟨g, c, cl, rfl, hbg, hP, hg, hc1, hcl, htk⟩ := R_block_run h2 (by simp)
    have hcl2 : cl = ([.int .i64 p.f0, .int .i64 p.f1] : List Value) ++ cl.drop 2 := by
      have e1 : cl.take 2 = [.int .i64 p.f0, .int .i64 p.f1] := by simpa [encs_run] using htk
      rw [← e1, List.take_append_drop]
    rw [hcl2] at hg
    have hbs := ownBlock_base_run h0
    refine (insert_R_run w0.heap.size (fun k_ => ((P0 k_ ∨ P2 k_) ∨ w.heap.size ≤ k_)) u0 l0 i p g c (cl.drop 2) w (Kd.R_mono h0 (fun _ hk => .inl (.inl hk))) hg (fun he => h02 g (h0.1 g he) hP) (by omega) hn hB.size (fun _ hk => .inr hk)).mono ?_
    rintro e w' ⟨v', rfl, hr, hgr, _⟩
    refine ⟨v', rfl, ?_, hB.grown hgr hB.size hbs, Kept.of_grown hgr (Kept.refl _ _) (fun k hk => .inl (.inl (h0.1 k hk)))⟩
    rw [Int.toNat_natCast]
    exact hr
  next => cases h

/-- Delete of the element at i. -/
theorem delete_R_run (base : Nat) (ok : Nat → Prop) (v : Value) (l : List S32) (i : Nat) (w : World) (h : Kd.R k32 32 w base ok v l) (hi : i < l.length) :
    Calls Try.prog 43 #[v, .int .i64 i, .int .i64 ((i : Int) + 1)] w fun e w' =>
      ∃ v', e = .returned v' ∧ Kd.R k32 32 w' base ok v' (l.take i ++ l.drop (i + 1)) ∧ w.grownBy w' v.ownBlock ∧ v'.ownBlock = v.ownBlock := by
  refine (delete_one_run base v l.length i (encs_run l) w (own_of_R_run h) hi (encs_one_run l)).mono ?_
  rintro e w' ⟨v', rfl, h1, h2, h3⟩
  refine ⟨v', rfl, R_of_ownE_run ?_ (fun k hk => h.1 k (by rw [← h3]; exact hk)), h2, h3⟩
  rw [encs_take_run, encs_drop_run, ← encs_append_run] at h1
  have hl : (l.take i ++ l.drop (i + 1)).length = l.length - 1 := by simp; omega
  rw [hl]; exact h1
/-- Delete, as the print's walks ask it: the row is handed over. -/
def del_run (l : List S32) (i j : Int) : Option (List S32) := if 0 ≤ i ∧ i < l.length ∧ j = i + 1 then some (l.take i.toNat ++ l.drop (i.toNat + 1)) else none
theorem deleteOwn_run (P0 : Nat → Prop) (u0 : Value) (l0 : List S32) (a1 a2 : Int) (r : List S32) (w0 w : World) (hB : Below w0.heap.size w0 w) (h0 : Kd.R k32 32 w w0.heap.size P0 u0 l0) (h : del_run l0 a1 a2 = some r) :
    Calls Try.prog 43 #[u0, .int .i64 a1, .int .i64 a2] w fun e w' => ∃ v0_ : Value, e = .returned (v0_) ∧ Kd.R k32 32 w' w0.heap.size (fun k_ => (P0 k_ ∨ w.heap.size ≤ k_)) v0_ r ∧ Below w0.heap.size w0 w' ∧ Kept w w' (fun k_ => P0 k_) := by
  unfold del_run at h
  split at h
  next hc =>
    obtain ⟨ha, hb, rfl⟩ := hc
    obtain rfl := Option.some.inj h
    obtain ⟨i, rfl⟩ := Int.eq_ofNat_of_zero_le ha
    have hbs := ownBlock_base_run h0
    refine (delete_R_run w0.heap.size (fun k_ => (P0 k_ ∨ w.heap.size ≤ k_)) u0 l0 i w (Kd.R_mono h0 (fun _ hk => .inl hk)) (by omega)).mono ?_
    rintro e w' ⟨v', rfl, hr, hgr, _⟩
    refine ⟨v', rfl, ?_, hB.grown hgr hB.size hbs, Kept.of_grown hgr (Kept.refl _ _) (fun k hk => .inl (h0.1 k hk))⟩
    rw [Int.toNat_natCast]
    exact hr
  next => cases h
end Go.Proofs.Ythbknmblehecaaa
