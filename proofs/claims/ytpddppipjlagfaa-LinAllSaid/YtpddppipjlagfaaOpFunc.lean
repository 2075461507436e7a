/- Several texts in one: OpFunc, OpRows. -/
import Derived.Test.YtpddppipjlagfaaBase
import Derived.Test.YtpddppipjlagfaaPlain
import Derived.Shelf.Abstract
import Derived.Test.YtpddppipjlagfaaRowk
/- IndexFunc, ContainsFunc at api.Op, over any closure. No statement is proved here. -/
namespace Go.Proofs.Ytpddppipjlagfaa
set_option linter.unusedVariables false
set_option linter.unusedSimpArgs false
open Go.RowKit Go.Proofs.YtpddppipjlagfaaW.PrintWords Go.Proofs.YtpddppipjlagfaaW.PrintLast Go.Proofs.YtpddppipjlagfaaW.PrintMore Pr

set_option maxHeartbeats 2000000 in
theorem index_op (p : S40 → Bool) (f : Nat) (cs : Array Value) (A0 : Option Addr) (c0 : Nat) (l0 : List S40) (w : World) (eg : ∀ args W, (callFunc f args).run Try.prog W = .ok (.enter f args) W) (hr0 : Kd.C k40 w A0 l0.length l0) (hl : l0.length ≤ 17592186044416)
    (hp : ∀ W, Below w.heap.size w W → ∀ x : S40, Calls Try.prog f (#[.agg #[.int .i64 x.f0.f0, .int .i64 x.f0.f1, .int .i64 x.f0.f2, .int .i64 x.f0.f3, .int .i64 x.f1, .int .i64 x.f2]] ++ cs) W fun e W' => e = .returned (.bool (p x)) ∧ Below W.heap.size W W') :
    Calls Try.prog 46 #[.slice A0 l0.length c0, .func (.func f) #[] cs] w fun e w' => e = .returned (.int .i64 (idxB p l0 0)) ∧ Below w.heap.size w w' := by
  have hu := Try.underlying40
  have HR := Sh.mk hr0
  have HP := Sh.mk hp
  clear hr0 hp
  go_enter Try.func46, Try.ntmps46
  go_wp2
  go_loopw [8] (fun i wr => ∃ k : Nat, k ≤ l0.length ∧ i = .int .i64 k ∧ Sh (idxB p l0 0 = idxB p (l0.drop k) k) ∧ Sh (Below w.heap.size w wr)) (fun i _ => l0.length - (intOf i).toNat)
  case atStart => exact ⟨0, Nat.zero_le _, rfl, ⟨by simp⟩, ⟨Below.refl _ _⟩⟩
  case round =>
    obtain ⟨k, hk, rfl, HF, HB⟩ := hrel
    by_cases hlt : k < l0.length
    · obtain ⟨ad, rfl, hx0, hx1, hx2, hx3, hx4, hx5⟩ := at_T40 (Kd.C_below HR.out HB.out) (k : Int) (by omega) (by omega)
      have hf := idxB_drop p l0 k hlt (rd_T40 l0 (k : Int)) (by simp [rd_T40, List.getD_eq_getElem?_getD, List.getElem?_eq_getElem hlt])
      rw [Int.toNat_natCast] at hx0 hx1 hx2 hx3 hx4 hx5
      obtain ⟨x, hx⟩ : ∃ x, x = rd_T40 l0 (k : Int) := ⟨_, rfl⟩
      rw [← hx] at hx0 hx1 hx2 hx3 hx4 hx5 hf
      clear hx
      have HC := Sh.mk (HP.out wr HB.out x)
      cases c : p x with
      | true =>
        rw [if_pos c] at hf
        have HV := Sh.mk (HF.out.trans hf)
        have CB := Sh.mk c
        clear hf c
        go_wp2_with (go_at_fn f; (with_reducible refine HC.out.mono ?_); rintro e w2 ⟨rfl, h2⟩; have H2 := Sh.mk h2; clear h2; rw [CB.out])
        go_ret
        exact ⟨by rw [HV.out]; rfl, below_then HB.out HB.out.size H2.out⟩
      | false =>
        rw [c, if_neg (by simp)] at hf
        have HV := Sh.mk (HF.out.trans hf)
        have CB := Sh.mk c
        clear hf c
        go_wp2_with (go_at_fn f; (with_reducible refine HC.out.mono ?_); rintro e w2 ⟨rfl, h2⟩; have H2 := Sh.mk h2; clear h2; rw [CB.out])
        go_roundw
        case rel => exact ⟨k + 1, by omega, by go_num, ⟨HV.out⟩, ⟨below_then HB.out HB.out.size H2.out⟩⟩
        case measure => simp [intOf]; omega
    · obtain rfl : k = l0.length := by omega
      have HV : Sh (idxB p l0 0 = -1) := ⟨by rw [HF.out, List.drop_length]; rfl⟩
      go_wp2
      go_ret
      exact ⟨by rw [HV.out]; rfl, HB.out⟩
set_option maxHeartbeats 1000000 in
theorem contains_op (p : S40 → Bool) (f : Nat) (cs : Array Value) (A0 : Option Addr) (c0 : Nat) (l0 : List S40) (w : World) (eg : ∀ args W, (callFunc f args).run Try.prog W = .ok (.enter f args) W) (hr0 : Kd.C k40 w A0 l0.length l0) (hl : l0.length ≤ 17592186044416)
    (hp : ∀ W, Below w.heap.size w W → ∀ x : S40, Calls Try.prog f (#[.agg #[.int .i64 x.f0.f0, .int .i64 x.f0.f1, .int .i64 x.f0.f2, .int .i64 x.f0.f3, .int .i64 x.f1, .int .i64 x.f2]] ++ cs) W fun e W' => e = .returned (.bool (p x)) ∧ Below W.heap.size W W') :
    Calls Try.prog 31 #[.slice A0 l0.length c0, .func (.func f) #[] cs] w fun e w' => e = .returned (.bool (l0.any p)) ∧ Below w.heap.size w w' := by
  have HI := Sh.mk (index_op p f cs A0 c0 l0 w eg hr0 hl hp)
  have HA := Sh.mk (idxB_any p l0)
  clear hr0 hp
  go_enter Try.func31, Try.ntmps31
  go_wp2_with fail
  (with_reducible refine HI.out.mono ?_); rintro e w2 ⟨rfl, h2⟩
  have H2 := Sh.mk h2
  clear h2
  go_wp2
  go_ret
  exact ⟨by rw [← HA.out]; rfl, H2.out⟩
end Go.Proofs.Ytpddppipjlagfaa

/- Rows of api.Op as rows of cells. No statement is proved here. -/
namespace Go.Proofs.Ytpddppipjlagfaa
set_option linter.unusedVariables false
set_option linter.unusedSimpArgs false
open Go.RowKit Go.Proofs.YtpddppipjlagfaaW.PrintWords Go.Proofs.YtpddppipjlagfaaW.PrintLast Go.Proofs.YtpddppipjlagfaaW.PrintMore Pr

/-- The cells of a list. -/
def encs_op : List S40 → List Value
  | [] => []
  | x :: l => .int .i64 x.f0.f0 :: .int .i64 x.f0.f1 :: .int .i64 x.f0.f2 :: .int .i64 x.f0.f3 :: .int .i64 x.f1 :: .int .i64 x.f2 :: encs_op l
theorem encs_len_op (l : List S40) : (encs_op l).length = l.length * 6 := by
  induction l with
  | nil => rfl
  | cons x l ih => simp only [encs_op, List.length_cons, ih]; omega
theorem encs_append_op (a b : List S40) : encs_op (a ++ b) = encs_op a ++ encs_op b := by
  induction a with
  | nil => rfl
  | cons x l ih => simp [encs_op, ih]
theorem encs_take_op (l : List S40) (i : Nat) : (encs_op l).take (i * 6) = encs_op (l.take i) := by
  induction l generalizing i with
  | nil => simp [encs_op]
  | cons x l ih =>
    cases i with
    | zero => simp [encs_op]
    | succ i =>
      rw [show (i + 1) * 6 = i * 6 + 1 + 1 + 1 + 1 + 1 + 1 by omega]
      simp [encs_op, ih]
theorem encs_drop_op (l : List S40) (i : Nat) : (encs_op l).drop (i * 6) = encs_op (l.drop i) := by
  induction l generalizing i with
  | nil => simp [encs_op]
  | cons x l ih =>
    cases i with
    | zero => simp [encs_op]
    | succ i =>
      rw [show (i + 1) * 6 = i * 6 + 1 + 1 + 1 + 1 + 1 + 1 by omega]
      simp [encs_op, ih]
theorem encs_one_op (l : List S40) : ∀ u ∈ encs_op l, u.oneCell' = true := by
  induction l with
  | nil => simp [encs_op]
  | cons x l ih =>
    intro u hu
    simp only [encs_op, List.mem_cons] at hu
    rcases hu with rfl | rfl | rfl | rfl | rfl | rfl | hu
    · rfl
    · rfl
    · rfl
    · rfl
    · rfl
    · rfl
    · exact ih u hu
theorem reps_encs_op (R : S40 → List Value → Prop) (hR : ∀ x cs, R x cs → cs = [.int .i64 x.f0.f0, .int .i64 x.f0.f1, .int .i64 x.f0.f2, .int .i64 x.f0.f3, .int .i64 x.f1, .int .i64 x.f2]) : ∀ (l : List S40) (cs : List Value), Reps R 6 l cs → cs = encs_op l
  | [], cs, h => by
    have := h.1
    exact List.eq_nil_of_length_eq_zero (by simpa using this)
  | x :: l, cs, h => by
    have hl := h.1
    have h0 := hR x _ (h.2 0 x rfl)
    simp only [Nat.zero_mul, List.drop_zero] at h0
    have hrest := reps_encs_op R hR l (cs.drop 6) ⟨by rw [List.length_drop, hl]; simp only [List.length_cons]; omega, fun j p hj => by
      have := h.2 (j + 1) p (by simpa using hj)
      rw [show (j + 1) * 6 = 6 + j * 6 by omega, ← List.drop_drop] at this
      exact this⟩
    rw [← List.take_append_drop 6 cs, h0, hrest]
    rfl
theorem encs_reps_op (R : S40 → List Value → Prop) (hR : ∀ x, R x [.int .i64 x.f0.f0, .int .i64 x.f0.f1, .int .i64 x.f0.f2, .int .i64 x.f0.f3, .int .i64 x.f1, .int .i64 x.f2]) (l : List S40) : Reps R 6 l (encs_op l) := by
  refine ⟨encs_len_op l, fun j p hj => ?_⟩
  have hj' := (List.getElem?_eq_some_iff.1 hj).1
  have e := (List.getElem?_eq_some_iff.1 hj).2
  rw [encs_drop_op, List.drop_eq_getElem_cons hj', e]
  exact hR p
theorem own_of_R_op {e : TypeId} {w : World} {base : Nat} {ok : Nat → Prop} {v : Value} {l : List S40} (h : Kd.R k40 e w base ok v l) : w.ownsRow base e 6 v l.length (encs_op l) := by
  obtain ⟨_, inner, ho, hr⟩ := h
  rw [reps_encs_op _ (fun x cs h => k40_openM h) l inner hr] at ho
  exact ho
theorem R_of_ownE_op {e : TypeId} {w : World} {base : Nat} {ok : Nat → Prop} {v : Value} {l : List S40} (h : w.ownsRow base e 6 v l.length (encs_op l)) (hok : ∀ k, v.ownBlock = some k → ok k) : Kd.R k40 e w base ok v l :=
  ⟨hok, encs_op l, h, encs_reps_op _ (fun x => k40_mkM _ _ _ x) l⟩
/-- An own row that is not empty: its block. -/
theorem R_block_op {e : TypeId} {w : World} {base : Nat} {ok : Nat → Prop} {v : Value} {l : List S40} (h : Kd.R k40 e w base ok v l) (hl : 0 < l.length) :
    ∃ g c cl, v = .slice (some ⟨g, 0, none⟩) l.length c ∧ base ≤ g ∧ ok g ∧ Blk w g e (List.toArray cl) ∧ l.length ≤ c ∧ cl.length = c * 6 ∧ cl.take (l.length * 6) = encs_op l := by
  have ho := own_of_R_op h
  rcases ho.2 with ⟨_, h0⟩ | ⟨g, cap, cur, rfl, hbg, hg, hnc, hcm, hcs, htk⟩
  · omega
  · exact ⟨g, cap, cur.toList, rfl, hbg, h.1 g rfl, by simpa [Blk] using hg, hnc, by simpa using hcs, htk⟩
theorem ownBlock_base_op {e : TypeId} {w : World} {base : Nat} {ok : Nat → Prop} {v : Value} {l : List S40} (h : Kd.R k40 e w base ok v l) : ∀ k, v.ownBlock = some k → base ≤ k := by
  intro k hk
  rcases (own_of_R_op h).2 with ⟨rfl, _⟩ | ⟨g, cap, cur, rfl, hbg, hg, hnc, hcm, hcs, htk⟩
  · cases hk
  · cases hk; exact hbg
end Go.Proofs.Ytpddppipjlagfaa
