/- Len, Spans, Free of a pool: contracts. No statement is proved here. -/
import Derived.Test.YtmmpdpnonnjadaaPoolMem
namespace Go.Proofs.Ytmmpdpnonnjadaa
set_option linter.unusedVariables false
set_option linter.unusedSimpArgs false
open Go.RowKit Go.Proofs.YtmmpdpnonnjadaaW.PrintWords Go.Proofs.YtmmpdpnonnjadaaW.PrintLast Go.Proofs.YtmmpdpnonnjadaaW.PrintMore Pr

def tot : List Pt → Nat
  | [] => 0
  | p :: L => p.free.length + tot L
theorem tot_app (a b : List Pt) : tot (a ++ b) = tot a + tot b := by
  induction a with
  | nil => simp [tot]
  | cons p a ih => simp only [List.cons_append, tot, ih]; omega
theorem tot_bd {c : Int} {N : Nat} (hc : 0 ≤ c ∧ c ≤ 3) {L : List Pt} (h : Good c N L) : tot L ≤ 16 * L.length := by
  induction L with
  | nil => simp [tot]
  | cons p L ih =>
    obtain ⟨h1, h2, _⟩ := h.cons
    have h3 := fit_len h1
    have h4 : perC c ≤ 16 := by rcases cls_cases hc with h | h | h | h <;> omega
    have := ih h2
    simp only [tot, List.length_cons]
    omega
set_option maxHeartbeats 1000000 in
theorem len_pool {F : Nat → Prop} {ga gp : Nat} {c : Int} {N : Nat} {Ps : List Pt} {W : World} (h : PSt F ga gp c N Ps W) :
    Calls Try.prog 14 #[.pointer (some ⟨gp, 0, none⟩)] W fun e w' => e = .returned (.int .i64 (tot Ps : Nat)) ∧ Below W.heap.size W w' := by
  have hu63 := Try.underlying63
  obtain ⟨gb, M, L, v, rfl, hp⟩ := h
  have HP := Sh.mk hp
  have hlen := hp.llen
  have htot := tot_bd hp.cc hp.gd
  rw [List.length_map] at htot
  obtain ⟨A, cap, rfl, hcap⟩ := hp.slice
  have hc1 := (hp.pl.cell 1).trans (show _ = some (Value.slice A L.length cap) from rfl)
  have HT : Sh (∀ i, i ≤ L.length → tot ((L.take i).map (·.1)) ≤ 512) := ⟨fun i hi => by
    have h1 := tot_app ((L.take i).map (·.1)) ((L.drop i).map (·.1))
    rw [← List.map_append, List.take_append_drop] at h1
    omega⟩
  clear hp htot
  go_enter Try.func14, Try.ntmps14
  go_wp2
  go_loopw [3, 13] (fun nv iv wr => ∃ (i n : Nat), i ≤ L.length ∧ iv = .int .i64 i ∧ nv = .int .i64 n ∧ n ≤ 512 ∧ Sh (n = tot ((L.take i).map (·.1))) ∧ Sh (Below W.heap.size W wr)) (fun _ iv _ => L.length - (intOf iv).toNat)
  case atStart => exact ⟨0, 0, Nat.zero_le _, rfl, rfl, by omega, ⟨by simp [tot]⟩, ⟨Below.refl _ _⟩⟩
  case round =>
    obtain ⟨i, n, hi, rfl, rfl, hn, HN, HB⟩ := hrel
    by_cases hlt : i < L.length
    · obtain ⟨g0, cap', hv, hF, hc2, hc3, hfz, k0, k1, k2, k3⟩ := (HP.out.below HB.out).at_ i hlt
      simp only [Value.slice.injEq] at hv
      obtain ⟨rfl, _, rfl⟩ := hv
      obtain ⟨m, hm⟩ : ∃ m, m = L[i].1.free.length := ⟨_, rfl⟩
      have HN2 : Sh (n + m = tot ((L.take (i + 1)).map (·.1))) := ⟨by
        rw [List.take_succ_eq_append_getElem hlt, List.map_append, tot_app, ← HN.out, hm]; rfl⟩
      have hnm : n + m ≤ 512 := by rw [HN2.out]; exact HT.out _ (by omega)
      rw [← hm] at k2
      obtain ⟨x0, hx0⟩ : ∃ x, x = L[i].1.page := ⟨_, rfl⟩
      obtain ⟨x1, hx1⟩ : ∃ x, x = hd L[i].1.free := ⟨_, rfl⟩
      obtain ⟨x3, hx3⟩ : ∃ x, x = L[i].2 := ⟨_, rfl⟩
      obtain ⟨x4, hx4⟩ : ∃ x, x = perC c := ⟨_, rfl⟩
      rw [← hx0] at k0
      rw [← hx1] at k1
      rw [← hx3, ← hx4] at k3
      clear hm hx0 hx1 hx3 hx4 hfz hF hc3
      go_wp2
      go_roundw
      case rel => exact ⟨i + 1, n + m, by omega, by go_num, by go_num, hnm, HN2, ⟨below_step HB.out (below_alloc (Below.refl _ _) _)⟩⟩
      case measure => simp [intOf]; omega
    · obtain rfl : i = L.length := by omega
      have hN := HN.out
      rw [List.take_length] at hN
      have HN3 := Sh.mk hN
      clear hN
      go_wp2
      go_ret
      obtain rfl := HN3.out
      exact ⟨rfl, HB.out⟩

theorem info_part : (Try.prog.info? 42).map (fun i => (i.zero, i.size, i.bytes)) = some (some (.agg #[.int .i64 0, .int .i64 0]), 2, 16) := by kernel_rfl
/-- Of each span its page, and how many are free. -/
def partsP (Ps : List Pt) : List S42 := Ps.map (fun p => ⟨p.page, (p.free.length : Int)⟩)
set_option maxRecDepth 100000 in
set_option maxHeartbeats 1000000 in
theorem spans_pool {F : Nat → Prop} {ga gp : Nat} {c : Int} {N : Nat} {Ps : List Pt} {W : World} (h : PSt F ga gp c N Ps W) :
    Calls Try.prog 17 #[.pointer (some ⟨gp, 0, none⟩)] W fun e w' => ∃ v, e = .returned v ∧ Kd.R k42 42 w' W.heap.size (fun _ => True) v (partsP Ps) ∧ Below W.heap.size W w' := by
  have hu63 := Try.underlying63
  obtain ⟨gb, M, L, v, rfl, hp⟩ := h
  have HP := Sh.mk hp
  have hlen := hp.llen
  obtain ⟨A, cap, rfl, hcap⟩ := hp.slice
  have hc1 := (hp.pl.cell 1).trans (show _ = some (Value.slice A L.length cap) from rfl)
  clear hp
  go_enter Try.func17, Try.ntmps17
  go_wp2
  go_loopw [3, 13] (fun nv iv wr => ∃ (i : Nat) (o : List S42), i ≤ L.length ∧ iv = .int .i64 i ∧ Sh (o = partsP ((L.take i).map (·.1))) ∧ Sh (Kd.R k42 42 wr W.heap.size (fun _ => True) nv o) ∧ Sh (Below W.heap.size W wr)) (fun _ iv _ => L.length - (intOf iv).toNat)
  case atStart => exact ⟨0, [], Nat.zero_le _, rfl, ⟨by simp [partsP]⟩, ⟨Kd.R_nil _ _ _ _ _⟩, ⟨Below.refl _ _⟩⟩
  case round =>
    obtain ⟨i, o, hi, rfl, HN, HO, HB⟩ := hrel
    obtain ⟨Ao, co, eo⟩ := Kd.R_slice HO.out
    subst eo
    by_cases hlt : i < L.length
    · obtain ⟨g0, cap', hv, hF, hc2, hc3, hfz, k0, k1, k2, k3⟩ := (HP.out.below HB.out).at_ i hlt
      simp only [Value.slice.injEq] at hv
      obtain ⟨rfl, _, rfl⟩ := hv
      obtain ⟨x0, hx0⟩ : ∃ x, x = L[i].1.page := ⟨_, rfl⟩
      obtain ⟨x1, hx1⟩ : ∃ x, x = hd L[i].1.free := ⟨_, rfl⟩
      obtain ⟨x2, hx2⟩ : ∃ x : Int, x = (L[i].1.free.length : Nat) := ⟨_, rfl⟩
      obtain ⟨x3, hx3⟩ : ∃ x, x = L[i].2 := ⟨_, rfl⟩
      obtain ⟨x4, hx4⟩ : ∃ x, x = perC c := ⟨_, rfl⟩
      rw [← hx0] at k0
      rw [← hx1] at k1
      rw [← hx2] at k2
      rw [← hx3, ← hx4] at k3
      have HN2 : Sh (o ++ [⟨x0, x2⟩] = partsP ((L.take (i + 1)).map (·.1))) := ⟨by
        rw [List.take_succ_eq_append_getElem hlt, List.map_append, partsP, List.map_append, hx0, hx2, HN.out]; rfl⟩
      have HOL : Sh (o.length ≤ 32) := ⟨by rw [HN.out, partsP, List.length_map, List.length_map, List.length_take]; omega⟩
      clear hx0 hx1 hx2 hx3 hx4 hfz hF hc3
      go_wp2_with (first | ((with_reducible refine gate_builtin (b := .append) (xs := #[.tmp 17, .tmp 23]) rfl ?_); at_builtin; refine Kd.R_append k42 (w0 := W) W.heap.size rfl (.tmp 17) (.tmp 23) 39 42 (.agg #[.int .i64 0, .int .i64 0]) 16 rfl Try.underlying39 info_part rfl (by decide) (by omega) (.slice Ao o.length co) o (⟨x0, x2⟩ : S42) [.int .i64 x0, .int .i64 x2] (fun _ => True) (fun _ => False) rfl (show Value.slice (some ⟨wr.heap.size + 1, 0, none⟩) 1 1 = .slice (some ⟨(wr.alloc (.cells #[.int .i64 x0, .int .i64 x1, .int .i64 x2, .slice (some ⟨x3, 0, none⟩) x4 x4] 63)).heap.size, 0, none⟩) 1 1 from by simp) ?aP (fun _ hk => hk.elim) ?aF ?aO ?aB ?aS ?aL ?_; (case aP => exact k42_mkM _ _ _ (⟨x0, x2⟩ : S42)); (case aB => exact below_alloc HB.out _); (case aF => exact (fun _ _ => trivial)); (case aO => exact Kd.R_alloc HO.out _); (case aS => exact below_size (below_alloc HB.out _)); (case aL => have := HOL.out; omega); intro v1 w1 ho hb hg hat; have HO' := Sh.mk ho; have HB' := Sh.mk hb; clear ho hb hg hat))
      go_roundw
      case rel => exact ⟨i + 1, o ++ [⟨x0, x2⟩], by omega, by go_num, HN2, HO', HB'⟩
      case measure => simp [intOf]; omega
    · obtain rfl : i = L.length := by omega
      have hN := HN.out
      rw [List.take_length] at hN
      have HN3 := Sh.mk hN
      clear hN
      go_wp2
      go_ret
      obtain rfl := HN3.out
      exact ⟨_, rfl, HO.out, HB.out⟩

/-- All that are free, by their spans. -/
def freeP (Ps : List Pt) : List Int := Ps.flatMap (·.free)
theorem freeP_len (Ps : List Pt) : (freeP Ps).length = tot Ps := by
  induction Ps with
  | nil => rfl
  | cons p Ps ih => simp only [freeP, List.flatMap_cons, List.length_append, tot] at ih ⊢; omega
set_option maxHeartbeats 2000000 in
theorem free_pool {F : Nat → Prop} {ga gp : Nat} {c : Int} {N : Nat} {Ps : List Pt} {W : World} (h : PSt F ga gp c N Ps W) :
    Calls Try.prog 16 #[.pointer (some ⟨gp, 0, none⟩), .pointer (some ⟨ga, 0, none⟩)] W fun e w' => ∃ v, e = .returned v ∧ Kd.R (Kd.int .i64) 3 w' W.heap.size (fun _ => True) v (freeP Ps) ∧ Below W.heap.size W w' := by
  have hu63 := Try.underlying63
  obtain ⟨gb, M, L, v, rfl, hp⟩ := h
  have HP := Sh.mk hp
  have hlen := hp.llen
  have htot := tot_bd hp.cc hp.gd
  rw [List.length_map] at htot
  obtain ⟨A, cap, rfl, hcap⟩ := hp.slice
  have hc1 := (hp.pl.cell 1).trans (show _ = some (Value.slice A L.length cap) from rfl)
  have HT : Sh (∀ i, i ≤ L.length → (freeP ((L.take i).map (·.1))).length ≤ 512) := ⟨fun i hi => by
    have h1 := tot_app ((L.take i).map (·.1)) ((L.drop i).map (·.1))
    rw [← List.map_append, List.take_append_drop] at h1
    rw [freeP_len]
    omega⟩
  clear hp htot
  go_enter Try.func16, Try.ntmps16
  go_wp2
  go_loopw [5, 21] (fun nv iv wr => ∃ (i : Nat) (o : List Int), i ≤ L.length ∧ iv = .int .i64 i ∧ Sh (o = freeP ((L.take i).map (·.1))) ∧ Sh (Kd.R (Kd.int .i64) 3 wr W.heap.size (fun _ => True) nv o) ∧ Sh (Below W.heap.size W wr)) (fun _ iv _ => L.length - (intOf iv).toNat)
  case atStart => exact ⟨0, [], Nat.zero_le _, rfl, ⟨by simp [freeP]⟩, ⟨Kd.R_nil _ _ _ _ _⟩, ⟨Below.refl _ _⟩⟩
  case round =>
    obtain ⟨i, o, hi, rfl, HN, HO, HB⟩ := hrel
    obtain ⟨Ao, co, eo⟩ := Kd.R_slice HO.out
    subst eo
    by_cases hlt : i < L.length
    · have HPB := Sh.mk (HP.out.below HB.out)
      obtain ⟨g0, cap', hv, hF, hc2, hc3, hfz, k0, k1, k2, k3⟩ := HPB.out.at_ i hlt
      simp only [Value.slice.injEq] at hv
      obtain ⟨rfl, _, rfl⟩ := hv
      obtain ⟨f, hf⟩ : ∃ f, f = L[i].1.free := ⟨_, rfl⟩
      have hch : Chn M f := by rw [hf]; exact HP.out.ch _ (List.getElem_mem _)
      have hfl : f.length ≤ perC c := by rw [hf]; exact fit_len (HP.out.gd.1 L[i].1 (List.mem_map.2 ⟨L[i], List.getElem_mem _, rfl⟩))
      have hper : perC c ≤ 16 := by rcases cls_cases HP.out.cc with h | h | h | h <;> omega
      have HWK : Sh (∀ V : World, Below wr.heap.size wr V → Calls Try.prog 35 #[.pointer (some ⟨ga, 0, none⟩), .int .i64 (hd f), .int .i64 (perC c : Nat)] V (IsRowI f 0 V)) := ⟨fun V hV => by
        have h1 := walk_any ga gb M (hd f) (perC c : Nat) V (HPB.out.below hV).ar (by omega)
        rw [walkT_chn HP.out.ar.small hch (by omega)] at h1
        exact h1⟩
      have HN2 : Sh (o ++ f = freeP ((L.take (i + 1)).map (·.1))) := ⟨by
        rw [List.take_succ_eq_append_getElem hlt, List.map_append, freeP, List.flatMap_append, hf, HN.out, freeP]; simp⟩
      have HLL : Sh (o.length + f.length ≤ 512) := ⟨by rw [← List.length_append, HN2.out]; exact HT.out _ (by omega)⟩
      rw [← hf] at k1
      obtain ⟨x0, hx0⟩ : ∃ x, x = L[i].1.page := ⟨_, rfl⟩
      obtain ⟨x1, hx1⟩ : ∃ x, x = hd f := ⟨_, rfl⟩
      obtain ⟨x2, hx2⟩ : ∃ x : Int, x = (L[i].1.free.length : Nat) := ⟨_, rfl⟩
      obtain ⟨x3, hx3⟩ : ∃ x, x = L[i].2 := ⟨_, rfl⟩
      obtain ⟨x4, hx4⟩ : ∃ x, x = perC c := ⟨_, rfl⟩
      rw [← hx0] at k0
      rw [← hx1] at k1
      rw [← hx2] at k2
      rw [← hx3, ← hx4] at k3
      rw [← hx1, ← hx4] at HWK
      clear hx0 hx1 hx2 hx3 hx4 hfz hF hc3 hch hfl hper hf
      go_wp2_with fail
      (with_reducible refine (HWK.out _ (below_alloc (Below.refl _ _) _)).mono ?_); rintro e w1 ⟨v1, rfl, hr1, hb1⟩
      obtain ⟨A1, c1, rfl⟩ := Kd.R_slice hr1
      have HR1 := Sh.mk (Kd.R_reads' hr1).2.2
      have HB1 := Sh.mk (below_step (below_alloc HB.out _) hb1)
      have HO1 := Sh.mk (Kd.R_below (Kd.R_alloc HO.out _) hb1)
      clear hr1 hb1
      go_wp2_with (first | ((with_reducible refine gate_builtin (b := .append) (xs := #[.tmp 35, .tmp 36]) rfl ?_); at_builtin; refine Kd.R_append_rows (Kd.int .i64) (w0 := W) W.heap.size rfl (.tmp 35) (.tmp 36) 37 3 (.int .i64 0) 8 rfl Try.underlying37 info_i64 rfl (by decide) (by omega) (.slice Ao o.length co) o f _ _ _ (fun _ => True) (fun _ => False) rfl rfl ?aO ?aR (fun _ _ h => h) (fun _ h => h.elim) ?aF ?aB ?aS ?aL ?_; (case aO => exact HO1.out); (case aR => exact HR1.out); (case aF => exact fun _ _ => trivial); (case aB => exact HB1.out); (case aS => exact HB1.out.size); (case aL => have := HLL.out; omega); intro v1 w1 ho hb hg hat; have HO' := Sh.mk ho; have HB' := Sh.mk hb; clear ho hb hg hat))
      go_roundw
      case rel => exact ⟨i + 1, o ++ f, by omega, by go_num, HN2, HO', HB'⟩
      case measure => simp [intOf]; omega
    · obtain rfl : i = L.length := by omega
      have hN := HN.out
      rw [List.take_length] at hN
      have HN3 := Sh.mk hN
      clear hN
      go_wp2
      go_ret
      obtain rfl := HN3.out
      exact ⟨_, rfl, HO.out, HB.out⟩
end Go.Proofs.Ytmmpdpnonnjadaa
