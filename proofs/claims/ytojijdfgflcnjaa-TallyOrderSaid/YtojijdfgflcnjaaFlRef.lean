/- The document's sorted floats: contracts. No statement is proved here. -/
import Derived.Test.YtojijdfgflcnjaaFlNums
namespace Go.Proofs.Ytojijdfgflcnjaa
set_option linter.unusedVariables false
set_option linter.unusedSimpArgs false
open Go.RowKit Go.Proofs.YtojijdfgflcnjaaW.PrintWords Go.Proofs.YtojijdfgflcnjaaW.PrintLast Go.Proofs.YtojijdfgflcnjaaW.PrintMore Fl Pr

/-- Where a word goes. -/
def insK (m : List Int) (v : Int) : Nat → Nat
  | 0 => 0
  | k + 1 => if rk v < rk (rd m (k : Int)) then insK m v k else k + 1
theorem insK_le (m : List Int) (v : Int) (k : Nat) : insK m v k ≤ k := by
  induction k with
  | zero => exact Nat.le_refl _
  | succ k ih => unfold insK; split <;> omega
def insL (m : List Int) (v : Int) : List Int := m.take (insK m v m.length) ++ [v] ++ m.drop (insK m v m.length)
def refL (l : List Nat) : List Int := l.foldl (fun m x => if nanB x then m else insL m (x : Int)) []
theorem insL_len (m : List Int) (v : Int) : (insL m v).length = m.length + 1 := by
  have := insK_le m v m.length
  simp [insL]; omega
theorem insL_mem (m : List Int) (v x : Int) : x ∈ insL m v ↔ x ∈ m ∨ x = v := by
  unfold insL
  have e := List.take_append_drop (insK m v m.length) m
  constructor
  · intro h
    rcases List.mem_append.1 h with h | h
    · rcases List.mem_append.1 h with h | h
      · exact .inl (List.mem_of_mem_take h)
      · exact .inr (by simpa using h)
    · exact .inl (List.mem_of_mem_drop h)
  · rintro (h | rfl)
    · rw [← e] at h
      rcases List.mem_append.1 h with h | h
      · simp [h]
      · simp [h]
    · simp
theorem refL_snoc (l : List Nat) (k : Nat) (h : k < l.length) : refL (l.take (k + 1)) = if nanB l[k] then refL (l.take k) else insL (refL (l.take k)) (l[k] : Int) := by
  unfold refL
  rw [List.take_succ_eq_append_getElem h, List.foldl_append]
  rfl
theorem info_w : (Try.prog.info? 28).map (fun i => (i.zero, i.size, i.bytes)) = some (some (.int .u64 0), 1, 8) := by kernel_rfl
theorem info_parts {P : Program} {e : TypeId} {z : Value} {s b : Nat} (h : (P.info? e).map (fun i => (i.zero, i.size, i.bytes)) = some (some z, s, b)) : ∃ i, P.info? e = some i ∧ i.zero = some z ∧ i.size = s ∧ i.bytes = b := by
  obtain ⟨i, hi, hz⟩ := Option.map_eq_some_iff.1 h
  simp only [Prod.mk.injEq] at hz
  exact ⟨i, hi, hz.1, hz.2.1, hz.2.2⟩
theorem R_made0 {w wr : World} (hb : Below w.heap.size w wr) : Kd.R (Kd.int .u64) 28 (wr.alloc (.cells #[] 28)).drew w.heap.size (fun _ => True) (.slice (some ⟨wr.heap.size, 0, none⟩) 0 0) [] :=
  ⟨fun _ _ => trivial, [], World.ownsRow_made wr #[] 0 hb.size (by simp [maxLen]) (by rfl), Reps.none _ _⟩
theorem C_blk1 {w2 : World} {g : Nat} {t : TypeId} {x : Int} (h2 : Blk w2 g t #[.int .u64 x]) : Kd.C (Kd.int .u64) w2 (some ⟨g, 0, none⟩) 1 [x] := by
  refine ⟨rfl, by omega, fun _ => ⟨_, rfl, fun j p hp => ⟨[.int .u64 p], rfl, rfl, fun i u hu => ?_⟩⟩⟩
  have hj : j = 0 := by have := (List.getElem?_eq_some_iff.1 hp).1; simp at this; exact this
  subst hj
  have hi : i = 0 := by have := (List.getElem?_eq_some_iff.1 hu).1; simp at this; exact this
  subst hi
  simp at hp hu
  subst hp hu
  rw [add_plain, h2.cell]
  rfl
theorem R_made1 {w wr : World} (hb : Below w.heap.size w wr) (x : Int) : Kd.R (Kd.int .u64) 28 ((wr.alloc (.cells #[] 28)).alloc (.cells #[.int .u64 x] 28)).drew w.heap.size (fun _ => True) (.slice (some ⟨wr.heap.size, 0, none⟩) 0 0) [] :=
  Kd.R_drew (Kd.R_alloc ⟨fun _ _ => trivial, [], World.ownsRow_made wr #[] 0 hb.size (by simp [maxLen]) (by rfl), Reps.none _ _⟩ _)
theorem C_one1 {wr w2 : World} (x : Int) (hg : ((wr.alloc (.cells #[] 28)).alloc (.cells #[.int .u64 x] 28)).drew.grownBy w2 (Value.slice (some ⟨wr.heap.size, 0, none⟩) 0 0).ownBlock) : Kd.C (Kd.int .u64) w2 (some ⟨wr.heap.size + 1, 0, none⟩) 1 [x] := by
  have h1 : Blk ((wr.alloc (.cells #[] 28)).alloc (.cells #[.int .u64 x] 28)).drew (wr.heap.size + 1) 28 #[.int .u64 x] := (Blk.new_ _ _ _ (by simp)).drew
  have h2 : Blk w2 (wr.heap.size + 1) 28 #[.int .u64 x] := (hg.block _ h1.lt (fun e => by simp [Value.ownBlock] at e)).trans h1
  exact C_blk1 h2
theorem R_made2 {w wr : World} (hb : Below w.heap.size w wr) (x : Int) : Kd.R (Kd.int .u64) 28 ((wr.alloc (.cells #[.int .u64 x] 28)).alloc (.cells #[] 28)).drew w.heap.size (fun _ => True) (.slice (some ⟨wr.heap.size + 1, 0, none⟩) 0 0) [] := by
  have h := Kd.R_drew (d := Kd.int .u64) (e := 28) (base := w.heap.size) (ok := fun _ => True) (xs := []) (v := .slice (some ⟨(wr.alloc (.cells #[.int .u64 x] 28)).heap.size, 0, none⟩) 0 0) (w := (wr.alloc (.cells #[.int .u64 x] 28)).alloc (.cells #[] 28)) ⟨fun _ _ => trivial, [], World.ownsRow_made (wr.alloc (.cells #[.int .u64 x] 28)) #[] 0 (by have := hb.size; simp; omega) (by simp [maxLen]) (by rfl), Reps.none _ _⟩
  simpa using h
theorem C_one2 {wr w2 : World} (x : Int) (hg : ((wr.alloc (.cells #[.int .u64 x] 28)).alloc (.cells #[] 28)).drew.grownBy w2 (Value.slice (some ⟨wr.heap.size + 1, 0, none⟩) 0 0).ownBlock) : Kd.C (Kd.int .u64) w2 (some ⟨wr.heap.size, 0, none⟩) 1 [x] := by
  have h1 : Blk ((wr.alloc (.cells #[.int .u64 x] 28)).alloc (.cells #[] 28)).drew wr.heap.size 28 #[.int .u64 x] := ((Blk.new wr _ _).alloc _).drew
  have h2 : Blk w2 wr.heap.size 28 #[.int .u64 x] := (hg.block _ h1.lt (fun e => by simp [Value.ownBlock] at e)).trans h1
  exact C_blk1 h2
set_option maxRecDepth 100000 in
set_option maxHeartbeats 4000000 in
theorem rsorted_any (A0 : Option Addr) (c0 : Nat) (l : List Nat) (w : World) (hr0 : Kd.C kf w A0 l.length l) (hl : l.length ≤ 1000) (hb : ∀ x ∈ l, x < 18446744073709551616) :
    Calls Try.prog 36 #[.slice A0 l.length c0] w fun e w' => ∃ v, e = .returned v ∧ Kd.R (Kd.int .u64) 28 w' w.heap.size (fun _ => True) v (refL l) ∧ Below w.heap.size w w' := by
  have HR := Sh.mk hr0
  have HBd := Sh.mk hb
  clear hr0 hb
  go_enter Try.func36, Try.ntmps36
  go_wp2
  go_loopw [3, 4] (fun lv i wr => ∃ (k : Nat) (m : List Int), k ≤ l.length ∧ i = .int .i64 k ∧ Sh (m = refL (l.take k)) ∧ Sh (∀ x ∈ m, 0 ≤ x ∧ x < 18446744073709551616) ∧ m.length ≤ k ∧ Sh (Kd.R (Kd.int .u64) 28 wr w.heap.size (fun _ => True) lv m) ∧ Sh (Below w.heap.size w wr)) (fun lv i _ => l.length - (intOf i).toNat)
  case atStart => exact ⟨0, [], Nat.zero_le _, rfl, ⟨rfl⟩, ⟨by simp⟩, by simp, ⟨Kd.R_nil _ _ _ _ _⟩, ⟨Below.refl _ _⟩⟩
  case round =>
    obtain ⟨k, m, hk, rfl, HM, HMB, hmk, HO, HB⟩ := hrel
    obtain ⟨Ao, co, eo⟩ := Kd.R_slice HO.out
    subst eo
    by_cases hlt : k < l.length
    · obtain ⟨ad, rfl, -, hcell⟩ := at_f (Kd.C_below HR.out HB.out) (k : Int) (by omega) (by omega) 0
      rw [Int.toNat_natCast] at hcell
      have hx0 : l.getD k 0 = l[k] := by rw [List.getD_eq_getElem?_getD, List.getElem?_eq_getElem hlt]; rfl
      have HS := Sh.mk (refL_snoc l k hlt)
      rw [hx0] at hcell
      have hxb := HBd.out _ (List.getElem_mem hlt)
      obtain ⟨x, hx⟩ : ∃ x, x = l[k] := ⟨_, rfl⟩
      rw [← hx] at hcell HS hxb
      clear hx hx0
      cases hn : nanB x with
      | true =>
        have hw : wd x = 9221120237041090560 := by unfold wd; rw [hn]; rfl
        have HW := Sh.mk hw
        rw [hn, if_pos rfl] at HS
        clear hw
        go_wp2_with fail
        (with_reducible refine (rword_any x _).mono ?_); rintro e w' ⟨rfl, rfl⟩
        rw [HW.out]
        go_wp2
        go_roundw
        case measure => simp [intOf]; omega
        case rel => exact ⟨k + 1, m, by omega, by go_num, ⟨by rw [HM.out, HS.out]⟩, HMB, by omega, HO, HB⟩
      | false =>
        have hw : wd x = (x : Int) := wd_num hn
        have HW := Sh.mk hw
        rw [hn, if_neg (by simp), ← HM.out] at HS
        have hne : ((x : Int) == 9221120237041090560) = false := by
          rw [beq_eq_false_iff_ne]
          intro h
          have : x = 9221120237041090560 := by omega
          subst this
          revert hn; decide
        have RX := Sh.mk (rrank_any (x : Int) (by omega) (by omega))
        clear hw
        go_wp2_with fail
        (with_reducible refine (rword_any x _).mono ?_); rintro e w' ⟨rfl, rfl⟩
        rw [HW.out]
        go_wp2
        go_loop [6] (fun j => ∃ q : Nat, q ≤ m.length ∧ j = .int .i64 q ∧ Sh (insK m (x : Int) m.length = insK m (x : Int) q)) (fun j => (intOf j).toNat)
        case atStart => exact ⟨m.length, Nat.le_refl _, rfl, ⟨rfl⟩⟩
        case round =>
          obtain ⟨q, hq, rfl, HQ⟩ := hrel
          have hco := (Kd.R_reads' HO.out).2.1
          have hC := (Kd.R_reads' HO.out).2.2
          by_cases cc : 0 < q ∧ rk (x : Int) < rk (rd m ((q : Int) - 1))
          · obtain ⟨c0, c1⟩ := cc
            have HQ2 : Sh (insK m (x : Int) m.length = insK m (x : Int) (q - 1)) := ⟨by
              rw [HQ.out]
              obtain ⟨p, rfl⟩ : ∃ p, q = p + 1 := ⟨q - 1, by omega⟩
              rw [insK, if_pos (by simpa using c1)]
              rfl⟩
            obtain ⟨ad2, e2, hcell2⟩ := Kd.at_int hC ((q : Int) - 1) (by omega) (by omega)
            subst e2
            obtain ⟨y, hy⟩ : ∃ y, y = rd m ((q : Int) - 1) := ⟨_, rfl⟩
            have hyb : 0 ≤ y ∧ y < 18446744073709551616 := by
              rw [hy, rd, List.getD_eq_getElem?_getD, List.getElem?_eq_getElem (show ((q : Int) - 1).toNat < m.length by omega)]
              exact HMB.out _ (List.getElem_mem _)
            rw [← hy] at hcell2 c1
            have RY := Sh.mk (rrank_any y hyb.1 hyb.2)
            have eN : ((q : Int) - 1).toNat = q - 1 := by omega
            rw [eN] at hcell2
            clear hy hyb eN hco hC
            go_wp2_with fail
            (with_reducible refine (RY.out _).mono ?_); rintro e w' ⟨rfl, rfl⟩
            go_wp2_with fail
            (with_reducible refine (RX.out _).mono ?_); rintro e w' ⟨rfl, rfl⟩
            go_wp2
            go_round
            case measure => simp [intOf]; omega
            case rel => exact ⟨q - 1, by omega, by rw [show ((q - 1 : Nat) : Int) = (q : Int) - 1 by omega], HQ2⟩
          · have HE : Sh (insL m (x : Int) = (m.take q ++ [(x : Int)]) ++ m.drop q) := ⟨by
              have : insK m (x : Int) m.length = q := by
                rw [HQ.out]
                cases q with
                | zero => rfl
                | succ p => rw [insK, if_neg (fun h => cc ⟨by omega, by simpa using h⟩)]
              unfold insL; rw [this]⟩
            obtain ⟨i28, hi28, hi2, hi3, hi4⟩ := info_parts info_w
            have cut1 : ∀ W : World, (Instr.slice 22 (.slice Ao m.length co) none (some (.int .i64 (q : Int))) none).run Try.prog W = .ok (.slice Ao q co) W := by
              have := cut_to (P := Try.prog) 22 28 .i64 Try.underlying22 hi28 Ao m.length co (q : Int) (by omega) (by omega) hco
              simpa using this
            obtain ⟨Bo, hBo⟩ : ∃ Bo, Bo = if co = q then Ao else Ao.map (·.add (q * 1)) := ⟨_, rfl⟩
            have cut2 : ∀ W : World, (Instr.slice 22 (.slice Ao m.length co) (some (.int .i64 (q : Int))) none none).run Try.prog W = .ok (.slice Bo (m.length - q) (co - q)) W := by
              have := cut_from (P := Try.prog) 22 28 .i64 Try.underlying22 hi28 1 hi3 Ao m.length co (q : Int) (by omega) (by omega)
              rw [hBo]
              simpa using this
            have CT : Sh (Kd.C (Kd.int .u64) wr Ao q (m.take q)) := ⟨by
              have := Kd.C_take hC hq
              rwa [List.length_take, Nat.min_eq_left hq] at this⟩
            have CD : Sh (Kd.C (Kd.int .u64) wr Bo (m.length - q) (m.drop q)) := ⟨by
              have := Kd.C_drop (m := q) hC hq hco
              rw [List.length_drop] at this
              rw [hBo]
              exact this⟩
            have HCO := Sh.mk hco
            clear hBo hi28 hi2 hi3 hi4 hco
            by_cases c0 : 0 < q
            · have c1 : rk (rd m ((q : Int) - 1)) ≤ rk (x : Int) := by
                have := fun h => cc ⟨c0, h⟩
                omega
              obtain ⟨ad2, e2, hcell2⟩ := Kd.at_int hC ((q : Int) - 1) (by omega) (by omega)
              subst e2
              obtain ⟨y, hy⟩ : ∃ y, y = rd m ((q : Int) - 1) := ⟨_, rfl⟩
              have hyb : 0 ≤ y ∧ y < 18446744073709551616 := by
                rw [hy, rd, List.getD_eq_getElem?_getD, List.getElem?_eq_getElem (show ((q : Int) - 1).toNat < m.length by omega)]
                exact HMB.out _ (List.getElem_mem _)
              rw [← hy] at hcell2 c1
              have RY := Sh.mk (rrank_any y hyb.1 hyb.2)
              have eN : ((q : Int) - 1).toNat = q - 1 := by omega
              rw [eN] at hcell2
              clear hy hyb eN hC cc
              go_wp2_with fail
              (with_reducible refine (RY.out _).mono ?_); rintro e w' ⟨rfl, rfl⟩
              go_wp2_with fail
              (with_reducible refine (RX.out _).mono ?_); rintro e w' ⟨rfl, rfl⟩
              go_wp2_with fail
              have WB := Sh.mk (Below.refl wr.heap.size wr)
              go_region_law (first
                | (refine Kd.R_append_rows_step (Kd.int .u64) (w0 := wr) wr.heap.size (by rfl) (.tmp 37) (.tmp 40) 22 28 (.int .u64 0) 8 rfl Try.underlying22 info_w rfl (by decide) (by omega) (.slice (some ⟨_, 0, none⟩) 0 0) [] (m.take q) _ _ _ (fun _ => True) (fun _ => False) rfl rfl ?aO ?aR (fun _ _ h => h) (fun _ h => h.elim) (fun _ _ => trivial) ?aB ?aS ?aL ?_; (case aO => exact R_made0 WB.out); (case aR => repeat (first | exact CT.out | apply Kd.C_alloc | apply Kd.C_drewN | apply Kd.C_drew)); (case aB => repeat (first | exact WB.out | apply below_alloc | apply below_drew | apply pw_below_drewN)); (case aS => simp <;> omega); (case aL => simp only [List.length_nil]; omega); intro v1 w2 ho hb hg hat; clear hg hat; rw [List.nil_append] at ho; have HO1 := Sh.mk ho; have HB1 := Sh.mk hb; clear ho hb)
                | (refine Kd.R_append_rows_step (Kd.int .u64) (w0 := wr) wr.heap.size (by rfl) (.tmp 37) (.tmp 40) 22 28 (.int .u64 0) 8 rfl Try.underlying22 info_w rfl (by decide) (by omega) (.slice (some ⟨_, 0, none⟩) 0 0) [] (m.take q) _ _ _ (fun _ => True) (fun _ => False) rfl rfl ?aO ?aR (fun _ _ h => h) (fun _ h => h.elim) (fun _ _ => trivial) ?aB ?aS ?aL ?_; (case aO => exact R_made1 WB.out _); (case aR => repeat (first | exact CT.out | apply Kd.C_alloc | apply Kd.C_drewN | apply Kd.C_drew)); (case aB => repeat (first | exact WB.out | apply below_alloc | apply below_drew | apply pw_below_drewN)); (case aS => simp <;> omega); (case aL => simp only [List.length_nil]; omega); intro v1 w2 ho hb hg hat; have HX : Sh (Kd.C (Kd.int .u64) w2 (some ⟨wr.heap.size + 1, 0, none⟩) 1 [(x : Int)]) := ⟨C_one1 (x : Int) hg⟩; clear hg hat; rw [List.nil_append] at ho; have HO1 := Sh.mk ho; have HB1 := Sh.mk hb; clear ho hb)
                | (refine Kd.R_append_rows_step (Kd.int .u64) (w0 := wr) wr.heap.size (by rfl) (.tmp 37) (.tmp 40) 22 28 (.int .u64 0) 8 rfl Try.underlying22 info_w rfl (by decide) (by omega) (.slice (some ⟨_, 0, none⟩) 0 0) [] (m.take q) _ _ _ (fun _ => True) (fun _ => False) rfl rfl ?aO ?aR (fun _ _ h => h) (fun _ h => h.elim) (fun _ _ => trivial) ?aB ?aS ?aL ?_; (case aO => exact R_made2 WB.out _); (case aR => repeat (first | exact CT.out | apply Kd.C_alloc | apply Kd.C_drewN | apply Kd.C_drew)); (case aB => repeat (first | exact WB.out | apply below_alloc | apply below_drew | apply pw_below_drewN)); (case aS => simp <;> omega); (case aL => simp only [List.length_nil]; omega); intro v1 w2 ho hb hg hat; have HX : Sh (Kd.C (Kd.int .u64) w2 (some ⟨wr.heap.size, 0, none⟩) 1 [(x : Int)]) := ⟨C_one2 (x : Int) hg⟩; clear hg hat; rw [List.nil_append] at ho; have HO1 := Sh.mk ho; have HB1 := Sh.mk hb; clear ho hb)
                | (refine Kd.R_append_rows_step (Kd.int .u64) (w0 := wr) wr.heap.size (by rfl) (.tmp 41) (.tmp 43) 22 28 (.int .u64 0) 8 rfl Try.underlying22 info_w rfl (by decide) (by omega) v1 (m.take q) [(x : Int)] _ _ _ (fun _ => True) (fun _ => False) rfl rfl HO1.out HX.out (fun _ _ h => h) (fun _ h => h.elim) (fun _ _ => trivial) HB1.out ?aS ?aL ?_; (case aS => exact HB1.out.size); (case aL => simp only [List.length_take]; omega); intro v2 w3 ho hb hg hat; clear hg hat; have HO2 := Sh.mk ho; have HB2 := Sh.mk hb; clear ho hb)
                | (refine Kd.R_append_step (Kd.int .u64) (w0 := wr) wr.heap.size (by rfl) (.tmp 41) (.tmp 43) 22 28 (.int .u64 0) 8 rfl Try.underlying22 info_w rfl (by decide) (by omega) v1 (m.take q) (x : Int) [.int .u64 (x : Int)] (fun _ => True) (fun _ => False) rfl rfl rfl (fun _ hk => hk.elim) (fun _ _ => trivial) HO1.out HB1.out ?aS ?aL ?_; (case aS => exact HB1.out.size); (case aL => simp only [List.length_take]; omega); intro v2 w3 ho hb hg hat; clear hg hat; have HO2 := Sh.mk ho; have HB2 := Sh.mk hb; clear ho hb)
                | (refine Kd.R_append_rows_step (Kd.int .u64) (w0 := wr) wr.heap.size (by rfl) (.tmp 44) (.tmp 47) 22 28 (.int .u64 0) 8 rfl Try.underlying22 info_w rfl (by decide) (by omega) v2 (m.take q ++ [(x : Int)]) (m.drop q) _ _ _ (fun _ => True) (fun _ => False) rfl rfl HO2.out ?aR (fun _ _ h => h) (fun _ h => h.elim) (fun _ _ => trivial) HB2.out ?aS ?aL ?_; (case aR => exact Kd.C_below CD.out HB2.out); (case aS => exact HB2.out.size); (case aL => simp only [List.length_append, List.length_take, List.length_cons, List.length_nil]; omega); intro v3 w4 ho hb hg hat; clear hg hat; have HO3 := Sh.mk ho; have HB3 := Sh.mk hb; clear ho hb))
              all_goals go_wp2
              all_goals go_roundw
              all_goals first
                | (simp [intOf]; omega)
                | exact ⟨k + 1, insL m (x : Int), by omega, by go_num, ⟨HS.out.symm⟩, ⟨fun z hz => by
                    rcases (insL_mem m (x : Int) z).1 hz with h | h
                    · exact HMB.out z h
                    · omega⟩, by rw [insL_len]; omega, ⟨by rw [HE.out]; exact Kd.R_lower HO3.out HB.out.size⟩, ⟨below_then HB.out HB.out.size HB3.out⟩⟩
            · have b0 : decide ((q : Int) > 0) = false := decide_eq_false (by omega)
              have b0' : decide (0 < q) = false := decide_eq_false c0
              clear hC c0 cc
              go_wp2_with fail
              have WB := Sh.mk (Below.refl wr.heap.size wr)
              go_region_law (first
                | (refine Kd.R_append_rows_step (Kd.int .u64) (w0 := wr) wr.heap.size (by rfl) (.tmp 37) (.tmp 40) 22 28 (.int .u64 0) 8 rfl Try.underlying22 info_w rfl (by decide) (by omega) (.slice (some ⟨_, 0, none⟩) 0 0) [] (m.take q) _ _ _ (fun _ => True) (fun _ => False) rfl rfl ?aO ?aR (fun _ _ h => h) (fun _ h => h.elim) (fun _ _ => trivial) ?aB ?aS ?aL ?_; (case aO => exact R_made0 WB.out); (case aR => repeat (first | exact CT.out | apply Kd.C_alloc | apply Kd.C_drewN | apply Kd.C_drew)); (case aB => repeat (first | exact WB.out | apply below_alloc | apply below_drew | apply pw_below_drewN)); (case aS => simp <;> omega); (case aL => simp only [List.length_nil]; omega); intro v1 w2 ho hb hg hat; clear hg hat; rw [List.nil_append] at ho; have HO1 := Sh.mk ho; have HB1 := Sh.mk hb; clear ho hb)
                | (refine Kd.R_append_rows_step (Kd.int .u64) (w0 := wr) wr.heap.size (by rfl) (.tmp 37) (.tmp 40) 22 28 (.int .u64 0) 8 rfl Try.underlying22 info_w rfl (by decide) (by omega) (.slice (some ⟨_, 0, none⟩) 0 0) [] (m.take q) _ _ _ (fun _ => True) (fun _ => False) rfl rfl ?aO ?aR (fun _ _ h => h) (fun _ h => h.elim) (fun _ _ => trivial) ?aB ?aS ?aL ?_; (case aO => exact R_made1 WB.out _); (case aR => repeat (first | exact CT.out | apply Kd.C_alloc | apply Kd.C_drewN | apply Kd.C_drew)); (case aB => repeat (first | exact WB.out | apply below_alloc | apply below_drew | apply pw_below_drewN)); (case aS => simp <;> omega); (case aL => simp only [List.length_nil]; omega); intro v1 w2 ho hb hg hat; have HX : Sh (Kd.C (Kd.int .u64) w2 (some ⟨wr.heap.size + 1, 0, none⟩) 1 [(x : Int)]) := ⟨C_one1 (x : Int) hg⟩; clear hg hat; rw [List.nil_append] at ho; have HO1 := Sh.mk ho; have HB1 := Sh.mk hb; clear ho hb)
                | (refine Kd.R_append_rows_step (Kd.int .u64) (w0 := wr) wr.heap.size (by rfl) (.tmp 37) (.tmp 40) 22 28 (.int .u64 0) 8 rfl Try.underlying22 info_w rfl (by decide) (by omega) (.slice (some ⟨_, 0, none⟩) 0 0) [] (m.take q) _ _ _ (fun _ => True) (fun _ => False) rfl rfl ?aO ?aR (fun _ _ h => h) (fun _ h => h.elim) (fun _ _ => trivial) ?aB ?aS ?aL ?_; (case aO => exact R_made2 WB.out _); (case aR => repeat (first | exact CT.out | apply Kd.C_alloc | apply Kd.C_drewN | apply Kd.C_drew)); (case aB => repeat (first | exact WB.out | apply below_alloc | apply below_drew | apply pw_below_drewN)); (case aS => simp <;> omega); (case aL => simp only [List.length_nil]; omega); intro v1 w2 ho hb hg hat; have HX : Sh (Kd.C (Kd.int .u64) w2 (some ⟨wr.heap.size, 0, none⟩) 1 [(x : Int)]) := ⟨C_one2 (x : Int) hg⟩; clear hg hat; rw [List.nil_append] at ho; have HO1 := Sh.mk ho; have HB1 := Sh.mk hb; clear ho hb)
                | (refine Kd.R_append_rows_step (Kd.int .u64) (w0 := wr) wr.heap.size (by rfl) (.tmp 41) (.tmp 43) 22 28 (.int .u64 0) 8 rfl Try.underlying22 info_w rfl (by decide) (by omega) v1 (m.take q) [(x : Int)] _ _ _ (fun _ => True) (fun _ => False) rfl rfl HO1.out HX.out (fun _ _ h => h) (fun _ h => h.elim) (fun _ _ => trivial) HB1.out ?aS ?aL ?_; (case aS => exact HB1.out.size); (case aL => simp only [List.length_take]; omega); intro v2 w3 ho hb hg hat; clear hg hat; have HO2 := Sh.mk ho; have HB2 := Sh.mk hb; clear ho hb)
                | (refine Kd.R_append_step (Kd.int .u64) (w0 := wr) wr.heap.size (by rfl) (.tmp 41) (.tmp 43) 22 28 (.int .u64 0) 8 rfl Try.underlying22 info_w rfl (by decide) (by omega) v1 (m.take q) (x : Int) [.int .u64 (x : Int)] (fun _ => True) (fun _ => False) rfl rfl rfl (fun _ hk => hk.elim) (fun _ _ => trivial) HO1.out HB1.out ?aS ?aL ?_; (case aS => exact HB1.out.size); (case aL => simp only [List.length_take]; omega); intro v2 w3 ho hb hg hat; clear hg hat; have HO2 := Sh.mk ho; have HB2 := Sh.mk hb; clear ho hb)
                | (refine Kd.R_append_rows_step (Kd.int .u64) (w0 := wr) wr.heap.size (by rfl) (.tmp 44) (.tmp 47) 22 28 (.int .u64 0) 8 rfl Try.underlying22 info_w rfl (by decide) (by omega) v2 (m.take q ++ [(x : Int)]) (m.drop q) _ _ _ (fun _ => True) (fun _ => False) rfl rfl HO2.out ?aR (fun _ _ h => h) (fun _ h => h.elim) (fun _ _ => trivial) HB2.out ?aS ?aL ?_; (case aR => exact Kd.C_below CD.out HB2.out); (case aS => exact HB2.out.size); (case aL => simp only [List.length_append, List.length_take, List.length_cons, List.length_nil]; omega); intro v3 w4 ho hb hg hat; clear hg hat; have HO3 := Sh.mk ho; have HB3 := Sh.mk hb; clear ho hb))
              all_goals go_wp2
              all_goals go_roundw
              all_goals first
                | (simp [intOf]; omega)
                | exact ⟨k + 1, insL m (x : Int), by omega, by go_num, ⟨HS.out.symm⟩, ⟨fun z hz => by
                    rcases (insL_mem m (x : Int) z).1 hz with h | h
                    · exact HMB.out z h
                    · omega⟩, by rw [insL_len]; omega, ⟨by rw [HE.out]; exact Kd.R_lower HO3.out HB.out.size⟩, ⟨below_then HB.out HB.out.size HB3.out⟩⟩
    · have HE : Sh (m = refL l) := ⟨by rw [HM.out, List.take_of_length_le (by omega)]⟩
      go_wp2
      go_ret
      exact ⟨_, rfl, by rw [← HE.out]; exact HO.out, HB.out⟩
end Go.Proofs.Ytojijdfgflcnjaa
