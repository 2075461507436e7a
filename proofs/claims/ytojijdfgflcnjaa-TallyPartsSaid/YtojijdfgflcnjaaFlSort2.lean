/- Sorting of floats: clones, what is left out, sorted: contracts. No statement is proved here. -/
import Derived.Test.YtojijdfgflcnjaaFlSort
import Derived.Test.YtojijdfgflcnjaaShelf
namespace Go.Proofs.Ytojijdfgflcnjaa
set_option linter.unusedVariables false
set_option linter.unusedSimpArgs false
open Go.RowKit Go.Proofs.YtojijdfgflcnjaaW.PrintWords Go.Proofs.YtojijdfgflcnjaaW.PrintLast Go.Proofs.YtojijdfgflcnjaaW.PrintMore Fl Pr

/-- Rows of floats, by their bits. -/
abbrev kf : Kd Nat := Kd.scalar (Value.float .f64) (fun _ => rfl)
theorem info_f : (Try.prog.info? 25).map (fun i => (i.zero, i.size, i.bytes)) = some (some (.float .f64 0), 1, 8) := by kernel_rfl
set_option maxHeartbeats 1000000 in
theorem fclone (A0 : Option Addr) (c0 : Nat) (l0 : List Nat) (w : World) (hr0 : Kd.C kf w A0 l0.length l0) (hl : l0.length < 17592186044416) :
    Calls Try.prog 51 #[.slice A0 l0.length c0] w fun e w' => ∃ v0_ : Value, e = .returned (v0_) ∧ Kd.R kf 25 w' w.heap.size (fun _ => True) v0_ l0 ∧ Below w.heap.size w w' := by
  have HR0 := Aside0.mk hr0
  have HL0 := Aside0.mk hl
  have HB := Aside0.mk (Below.refl w.heap.size w)
  clear hl
  rcases A0 with _ | ad
  · have h00 : l0 = [] := by
      rcases Nat.eq_zero_or_pos l0.length with h1 | h1
      · exact List.eq_nil_of_length_eq_zero h1
      · obtain ⟨ad, h2, _⟩ := hr0.2.2 h1
        cases h2
    clear hr0 HR0 HL0
    subst h00
    have h0 := fun (w : World) => Lib.run_eql_slice_nil (P := Try.prog) w 23 25 none 0 c0 0 0 Try.underlying23
    go_enter Try.func51, Try.ntmps51
    go_wp2
    go_ret
    exact ⟨_, rfl, Kd.R_nil _ _ _ _ _, Below.refl _ _⟩
  · clear hr0
    have h0 := fun (w : World) => Lib.run_eql_slice_nil (P := Try.prog) w 23 25 (some ad) l0.length c0 0 0 Try.underlying23
    go_enter Try.func51, Try.ntmps51
    go_wp2_with (first | ((with_reducible refine gate_builtin (b := .append) (xs := #[.tmp 5, .tmp 6]) rfl ?_); at_builtin; refine Kd.R_append_rows kf (w0 := w) w.heap.size rfl (.tmp 5) (.tmp 6) 23 25 (.float .f64 0) 8 rfl Try.underlying23 info_f rfl (by decide) (by omega) (.slice (some ⟨w.heap.size, 0, none⟩) 0 0) [] l0 _ _ _ (fun _ => True) (fun _ => False) rfl rfl ?aO ?aR (fun _ _ h => h) (fun _ h => h.elim) ?aF ?aB ?aS ?aL ?_; (case aO => exact ⟨fun _ _ => trivial, [], World.ownsRow_made w #[] 0 (Nat.le_refl _) (by simp [maxLen]) (by rfl), Reps.none _ _⟩); (case aR => exact Kd.C_alloc HR0.out _); (case aF => exact fun _ _ => trivial); (case aB => exact below_alloc HB.out _); (case aS => simp); (case aL => have := HL0.out; simp only [List.length_nil]; omega); intro v1 w1 ho hb hg hat; have HO := Aside0.mk ho; have HB1 := Aside0.mk hb; clear ho hb hg hat))
    go_ret
    exact ⟨_, rfl, by simpa using HO.out, HB1.out⟩

/-- Where nothing is, nothing is left out. -/
theorem findex_none (A : Option Addr) (c : Nat) (v : Value) (w : World) : Calls Try.prog 59 #[.slice A 0 c, v] w fun e w' => e = .returned (.int .i64 (-1)) ∧ w = w' := by
  go_enter Try.func59, Try.ntmps59
  go_wp2
  go_loop [8] (fun i => i = .int .i64 0) (fun _ => 0)
  case atStart => exact rfl
  case round =>
    subst hrel
    go_wp2
    go_ret
    exact ⟨rfl, rfl⟩
theorem fdel_none (A : Option Addr) (c : Nat) (v : Value) (w : World) : Calls Try.prog 50 #[.slice A 0 c, v] w fun e w' => e = .returned (.slice A 0 c) ∧ w = w' := by
  go_enter Try.func50, Try.ntmps50
  go_wp2_with fail
  (with_reducible refine (findex_none A c v _).mono ?_); rintro e w' ⟨rfl, rfl⟩
  go_wp2
  go_ret
  exact ⟨rfl, rfl⟩

open Go.Sort Go.Lib in
theorem grown_sorted {α : Type} [Inhabited α] {enc : α → Value} {w : World} {g n : Nat} {os : Array Obj} (d : Array α) : w.grownBy (sortWorld enc w g 0 n d os) (some g) := by
  unfold sortWorld
  refine ⟨rfl, rfl, rfl, by simp, fun k hk hne => ?_⟩
  rw [heap_grow_old _ _ (by simpa using hk)]
  have : g ≠ k := fun e => hne (by rw [e])
  simp [putRow, mapBlock, Sort.ahead, Array.getElem?_modify, this]
open Go.Sort Go.Lib in
theorem grown_put {α : Type} [Inhabited α] {enc : α → Value} {w : World} {g n : Nat} (d : Array α) : w.grownBy (putRow enc (Sort.ahead w n) g 0 d) (some g) := by
  have := grown_sorted (enc := enc) (w := w) (g := g) (n := n) (os := #[]) d
  unfold sortWorld at this
  rwa [grow_empty] at this
/-- Words that are a number's. -/
abbrev FW := {x : Nat // x < 18446744073709551616 ∧ nanB x = false}
instance : Inhabited FW := ⟨⟨0, by decide⟩⟩
def encF (x : FW) : Value := .float .f64 x.1
def cfF (x y : FW) : Int := Lib.compareInt (rk x.1) (rk y.1)
theorem ltF (x y : FW) : ltOf cfF x y = decide (rk x.1 < rk y.1) := by
  unfold ltOf cfF Lib.compareInt
  by_cases h1 : rk x.1 < rk y.1
  · simp [h1]
  · by_cases h2 : rk y.1 < rk x.1 <;> simp [h1, h2]
theorem swoF : Go.Sort.SWO (ltOf cfF) where
  irrefl x := by rw [ltF]; simp
  trans x y z h1 h2 := by rw [ltF] at *; simp at *; omega
  ntrans x y z h1 h2 := by rw [ltF] at *; simp at *; omega
theorem rk_inj {a b : Int} (ha : 0 ≤ a ∧ a < 18446744073709551616) (hb : 0 ≤ b ∧ b < 18446744073709551616) (h : rk a = rk b) : a = b := by
  unfold rk at h; split at h <;> split at h <;> omega
theorem totF (x y : FW) (h1 : ltOf cfF x y = false) (h2 : ltOf cfF y x = false) : x = y := by
  rw [ltF] at h1 h2
  have h3 : rk x.1 = rk y.1 := by simp at h1 h2; omega
  have h4 := rk_inj ⟨by omega, by have := x.2.1; omega⟩ ⟨by omega, by have := y.2.1; omega⟩ h3
  exact Subtype.ext (by omega)
theorem wd_num {x : Nat} (h : nanB x = false) : wd x = x := by unfold wd; rw [h]; rfl
/-- Numbers in order, without what is no number. -/
def srt (l : List Nat) : List Nat := (l.filter fun x => !nanB x).mergeSort fun x y => !decide (rk (y : Int) < rk (x : Int))
def IsSrt (l : List Nat) (w : World) (e : Ending) (w' : World) : Prop := ∃ A c, e = .returned (.slice A (srt l).length c) ∧ Kd.C kf w' A (srt l).length (srt l) ∧ Below w.heap.size w w'
end Go.Proofs.Ytojijdfgflcnjaa
