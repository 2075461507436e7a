/- sorted, Mid, Ends of floats: contracts. No statement is proved here. -/
import Derived.Test.YtojijdfgflcnjaaFlSort2
import Derived.Shelf.SlSortCmp.NoneTotal
import Derived.Laws.EntriesVeiled
namespace Go.Proofs.Ytojijdfgflcnjaa
set_option linter.unusedVariables false
set_option linter.unusedSimpArgs false
open Go.RowKit Go.Proofs.YtojijdfgflcnjaaW.PrintWords Go.Proofs.YtojijdfgflcnjaaW.PrintLast Go.Proofs.YtojijdfgflcnjaaW.PrintMore Fl Pr

theorem srt_len (l : List Nat) : (srt l).length = (l.filter fun x => !nanB x).length := by unfold srt; exact (List.mergeSort_perm _ _).length_eq
/-- A row that is known cell by cell reads so. -/
theorem C_holds {w : World} {g : Nat} {d : List Nat} (h : ∀ j (hj : j < d.length), w.cell? ⟨g, j, none⟩ = some (.float .f64 d[j])) (hs : d.length ≤ 9223372036854775807) : Kd.C kf w (some ⟨g, 0, none⟩) d.length d := by
  refine Kd.C_of_reads (d := 0) ⟨rfl, hs, fun _ => ⟨_, rfl, fun j hj => ?_⟩⟩
  rw [add_plain, h j hj, List.getD_eq_getElem?_getD, List.getElem?_eq_getElem hj]
  rfl
theorem filter_ok {l : List Nat} (hb : ∀ x ∈ l, x < 18446744073709551616) : ∀ x ∈ l.filter (fun x => !nanB x), x < 18446744073709551616 ∧ nanB x = false := by
  intro x hx
  obtain ⟨h1, h2⟩ := List.mem_filter.1 hx
  exact ⟨hb x h1, by simpa using h2⟩
def toF (l : List Nat) (h : ∀ x ∈ l, x < 18446744073709551616 ∧ nanB x = false) : List FW := l.pmap (fun x hx => ⟨x, hx⟩) h
theorem toF_map (l : List Nat) (h : ∀ x ∈ l, x < 18446744073709551616 ∧ nanB x = false) : (toF l h).map Subtype.val = l := by
  unfold toF
  rw [List.map_pmap]
  simp
theorem srt_toF (l : List Nat) (h : ∀ x ∈ l.filter (fun x => !nanB x), x < 18446744073709551616 ∧ nanB x = false) : ((toF _ h).mergeSort fun x y => !ltOf cfF y x).map Subtype.val = srt l := by
  unfold srt
  have e := List.map_mergeSort (r := fun x y : FW => !ltOf cfF y x) (s := fun x y : Nat => !decide (rk (y : Int) < rk (x : Int))) (f := Subtype.val) (l := toF _ h) (fun a _ b _ => by rw [ltF])
  rw [e, toF_map]

/-- A row of the call's own, or none. -/
def FRow (w w' : World) (A : Option Addr) (F : List Nat) : Prop := Below w.heap.size w w' ∧ (0 < F.length → ∃ g, A = some ⟨g, 0, none⟩ ∧ w.heap.size ≤ g ∧ g < w'.heap.size ∧ ∀ j (hj : j < F.length), w'.cell? ⟨g, j, none⟩ = some (.float .f64 F[j]) ∧ w'.frozen? ⟨g, j, none⟩ = false)
theorem below_grown_row {w w1 w2 : World} {g : Nat} (h : Below w.heap.size w w1) (hg : w1.grownBy w2 (some g)) (hw : w.heap.size ≤ g) : Below w.heap.size w w2 :=
  h.trans ⟨hg.os, hg.tape, hg.output, hg.size, fun k hk => hg.block k (Nat.lt_of_lt_of_le hk h.size) (fun e => by injection e with e; omega)⟩
open Go.Sort in
theorem fdel_any (v : Value) (l : List Nat) (w w1 : World) (h1 : Kd.R kf 25 w1 w.heap.size (fun _ => True) v l) (h2 : Below w.heap.size w w1) (hl : l.length < 17592186044416) :
    Calls Try.prog 50 #[v, .func (.func 39) #[] #[]] w1 fun e w' => ∃ A c, e = .returned (.slice A (l.filter fun x => !nanB x).length c) ∧ FRow w w' A (l.filter fun x => !nanB x) := by
  have egN : ∀ args w, (callFunc 39 args).run Try.prog w = .ok (.enter 39 args) w := enters_of Try.func39 (by kernel_rfl) rfl
  rcases Nat.eq_zero_or_pos l.length with h0 | h0
  · obtain rfl := List.eq_nil_of_length_eq_zero h0
    obtain ⟨A, c, rfl, h3, h4⟩ := Kd.R_reads h1
    exact (fdel_none A c _ w1).mono (fun e w' ⟨he, hw⟩ => ⟨A, c, he, by rw [← hw]; exact h2, fun h => absurd h (by simp)⟩)
  · obtain ⟨g, cap, rfl, hg, hlt, -⟩ := Kd.R_form h1 h0
    have hcap := (Kd.R_reads' h1).2.1
    have hcell := fun (j : Nat) (hj : j < l.length) => Kd.R_cell 0 h1 (j : Int) (by omega) (by omega)
    have hH : Holds (Value.float .f64) w1 g 0 l.toArray := fun j hj => by
      have hj' : j < l.length := by simpa using hj
      have := hcell j hj'
      rw [Int.toNat_natCast] at this
      rw [Nat.zero_add]
      refine ⟨?_, this.2⟩
      rw [this.1, getElem!_pos _ j (by simpa using hj')]
      simp [rdOf, List.getD_eq_getElem?_getD, List.getElem?_eq_getElem hj']
    have hp : PredAt Try.prog 39 #[] (Value.float .f64) nanB w1 := fun W x _ => (isNaN_any x W).mono (fun e w' ⟨h, h'⟩ => ⟨h, 0, h'.symm⟩)
    have hpo : PredOver Try.prog 39 #[] (Value.float .f64) nanB g 0 l.toArray.size w1 := fun n os dk x _ => (isNaN_any x _).mono (fun e w' ⟨h, h'⟩ => ⟨h, 0, h'.symm⟩)
    have zv : ∀ w, (zeroValue 25).run Try.prog w = .ok (.float .f64 0) w := Try.zeroValue25
    have hcon := AnyE.slices_DeleteFunc Try.delF (Value.float .f64) (fun _ => rfl) nanB 39 #[] egN 0 zv g 0 cap l.toArray w1 hp hpo hH (by simp; omega) (by simpa using hcap)
    change Calls Try.prog 50 _ _ _ at hcon
    refine Calls.mono (by simpa using hcon) ?_
    rintro e w' ⟨he, q, hw⟩
    refine ⟨_, _, by simpa using he, ?_, fun _ => ⟨g, rfl, hg, ?_, fun j hj => ?_⟩⟩
    · rw [hw]; exact below_grown_row h2 (grown_put _) hg
    · rw [hw]; simpa using hlt
    · have hsz : (((l.filter fun x => !nanB x) ++ List.replicate (l.length - (l.filter fun x => !nanB x).length) 0).toArray).size = l.toArray.size := by
        have := List.length_filter_le (fun x => !nanB x) l
        simp; omega
      have hH2 := holds_putRow (Value.float .f64) (Sort.ahead w1 q) g 0 l.toArray _ hH hsz
      have := hH2 j (by simp; have := List.length_filter_le (fun x => !nanB x) l; omega)
      rw [Nat.zero_add] at this
      rw [hw]
      refine ⟨?_, this.2⟩
      rw [this.1, getElem!_pos _ j (by simp; have := List.length_filter_le (fun x => !nanB x) l; omega)]
      simp [List.getElem_append_left hj]
/-- What the sort leaves. -/
def SPost (l : List Nat) (w : World) (A : Option Addr) (e : Ending) (w' : World) : Prop := e = .returned (.tuple #[]) ∧ Kd.C kf w' A (srt l).length (srt l) ∧ Below w.heap.size w w'
open Go.Sort in
theorem fsort_any (l : List Nat) (w w2 : World) (A : Option Addr) (c : Nat) (hF : ∀ x ∈ l.filter (fun x => !nanB x), x < 18446744073709551616 ∧ nanB x = false) (hl : l.length < 17592186044416) (h : FRow w w2 A (l.filter fun x => !nanB x)) :
    Calls Try.prog 53 #[.slice A (l.filter fun x => !nanB x).length c, .func (.func 54) #[] #[.pointer (some ⟨w2.heap.size, 0, none⟩)]] (w2.alloc (.cells #[.func (.func 52) #[] #[]] 31)) (SPost l w A) := by
  have eg2 : ∀ args w, (callFunc 54 args).run Try.prog w = .ok (.enter 54 args) w := enters_of Try.func54 (by kernel_rfl) rfl
  obtain ⟨hbel, hrow⟩ := h
  have hfl : (l.filter fun x => !nanB x).length ≤ l.length := List.length_filter_le _ _
  have hba := below_alloc hbel (.cells #[.func (.func 52) #[] #[]] 31)
  rcases Nat.eq_zero_or_pos (l.filter fun x => !nanB x).length with h0 | h0
  · have hs : srt l = [] := List.eq_nil_of_length_eq_zero (by rw [srt_len, h0])
    rw [h0]
    refine (AnyF.slices_SortFunc_none (P := Try.prog) (ρ := Try.sortF_ren) { Try.sortF with } A c _ _).mono ?_
    rintro e w' ⟨he, hw⟩
    refine ⟨he, ?_, by rw [hw]; exact hba⟩
    rw [hs]
    exact ⟨rfl, by simp, fun h => absurd h (by simp)⟩
  · obtain ⟨g, rfl, hg, hlt, hc⟩ := hrow h0
    have hl2 : (toF _ hF).length = (l.filter fun x => !nanB x).length := by unfold toF; simp
    have hat : ∀ j (hj : j < (toF _ hF).length), encF (toF _ hF)[j] = .float .f64 ((l.filter fun x => !nanB x)[j]'(by omega)) := by
      intro j hj
      unfold encF
      congr 1
      simp only [toF, List.getElem_pmap]
    have hH : Holds encF (w2.alloc (.cells #[.func (.func 52) #[] #[]] 31)) g 0 (toF _ hF).toArray := fun j hj => by
      have hj1 : j < (toF _ hF).length := by simpa using hj
      have hj2 : j < (l.filter fun x => !nanB x).length := by omega
      rw [Nat.zero_add, getElem!_pos _ j hj]
      refine ⟨?_, ?_⟩
      · rw [show (toF _ hF).toArray[j] = (toF _ hF)[j] from by simp, hat j hj1]
        exact Lib.cell?_alloc_some _ (hc j hj2).1
      · rw [World.frozen?_alloc_old _ _ _ (by show g ≠ w2.heap.size; omega)]
        exact (hc j hj2).2
    have hcmp : CmpReads Try.prog 54 #[.pointer (some ⟨w2.heap.size, 0, none⟩)] encF cfF g 0 (toF _ hF).toArray.size (w2.alloc (.cells #[.func (.func 52) #[] #[]] 31)) := by
      intro m os dk hdk x y
      have hcell : (sortWorld encF (w2.alloc (.cells #[.func (.func 52) #[] #[]] 31)) g 0 m dk os).cell? ⟨w2.heap.size, 0, none⟩ = some (.func (.func 52) #[] #[]) := by
        unfold sortWorld
        rw [cell?_grow _ _ _ (by show w2.heap.size < (putRow _ _ _ _ _).heap.size; rw [size_putRow]; simp [Sort.ahead]), cell?_putRow_other _ _ g 0 _ _ (Or.inl (by show w2.heap.size ≠ g; omega))]
        have := Blk.cell (Blk.new w2 31 #[.func (.func 52) #[] #[]]) 0
        exact this
      have := clo2 x.1 y.1 x.2.1 y.2.1 w2.heap.size _ hcell
      rw [wd_num x.2.2, wd_num y.2.2] at this
      exact this
    have hcon := Any.slices_SortFunc_total Try.sortF encF (fun _ => rfl) cfF swoF 54 #[.pointer (some ⟨w2.heap.size, 0, none⟩)] g 0 c (toF _ hF).toArray _ eg2 hcmp.lays hH (by simp; omega) (by simp [hl2]; omega) totF
    change Calls Try.prog 53 _ _ _ at hcon
    rw [show (toF _ hF).toArray.size = (l.filter fun x => !nanB x).length from by simp [hl2]] at hcon
    refine hcon.mono ?_
    rintro e w' ⟨he, n, os, hw⟩
    refine ⟨he, ?_, ?_⟩
    · have hsz : (((toF _ hF).toArray.toList.mergeSort fun x y => !(ltOf cfF) y x).toArray).size = (toF _ hF).toArray.size := by simp [(List.mergeSort_perm _ _).length_eq]
      have hH2 := holds_putRow encF (Sort.ahead (w2.alloc (.cells #[.func (.func 52) #[] #[]] 31)) n) g 0 (toF _ hF).toArray _ hH hsz
      have hH3 := holds_grow encF _ os g 0 _ (by rw [size_putRow]; simp [Sort.ahead]; omega) hH2
      refine C_holds (fun j hj => ?_) (by rw [srt_len]; omega)
      have hj2 : j < (((toF _ hF).toArray.toList.mergeSort fun x y => !(ltOf cfF) y x).toArray).size := by rw [hsz]; simp [hl2]; rw [← srt_len]; exact hj
      have h3 := (hH3 j hj2).1
      rw [Nat.zero_add] at h3
      rw [hw]
      show (grow _ _).cell? _ = _
      rw [h3, getElem!_pos _ j hj2]
      have e2 : ∀ (L : List FW) (hL : j < L.length) (M : List Nat) (hM : j < M.length), L.map Subtype.val = M → encF L[j] = .float .f64 M[j] := by
        intro L hL M hM e
        subst e
        simp [encF]
      have hj3 : j < ((toF _ hF).mergeSort fun x y => !(ltOf cfF) y x).length := by rw [(List.mergeSort_perm _ _).length_eq, hl2, ← srt_len]; exact hj
      have := e2 _ hj3 (srt l) hj (srt_toF l hF)
      simpa using this
    · rw [hw]
      exact below_grown_row hba (grown_sorted _) hg
set_option maxRecDepth 100000 in
set_option maxHeartbeats 2000000 in
theorem sorted_any (A : Option Addr) (c : Nat) (l : List Nat) (w : World) (hr : Kd.C kf w A l.length l) (hl : l.length < 17592186044416) (hb : ∀ x ∈ l, x < 18446744073709551616) :
    Calls Try.prog 34 #[.slice A l.length c] w (IsSrt l w) := by
  have eg2 : ∀ args w, (callFunc 54 args).run Try.prog w = .ok (.enter 54 args) w := enters_of Try.func54 (by kernel_rfl) rfl
  have HC := Sh.mk (fclone A c l w hr hl)
  have HF := Sh.mk (filter_ok hb)
  have HL := Sh.mk hl
  clear hr hb hl
  go_enter Try.func34, Try.ntmps34
  go_wp2_with fail
  (with_reducible refine HC.out.mono ?_); rintro e w1 ⟨v, rfl, h1, h2⟩
  have HDel := Sh.mk (fdel_any v l w w1 h1 h2 HL.out)
  clear h1 h2
  go_wp2_with fail
  (with_reducible refine HDel.out.mono ?_); rintro e w2 ⟨A1, c1, rfl, h1⟩
  have H2 := Sh.mk h1
  clear h1
  have HSo := Sh.mk (fsort_any l w w2 A1 c1 HF.out HL.out H2.out)
  go_wp2_with fail
  refine HSo.out.mono ?_; rintro e w3 ⟨rfl, h3, h4⟩
  have H3 := Sh.mk h3
  have H4 := Sh.mk h4
  clear h3 h4
  go_wp2
  go_ret
  exact ⟨A1, c1, by rw [srt_len]; rfl, H3.out, H4.out⟩
end Go.Proofs.Ytojijdfgflcnjaa
