/- Take of a pool: a contract. No statement is proved here. -/
import Derived.Test.YtmmpdpnonnjadaaPoolTake
import Derived.Test.YtmmpdpnonnjadaaQuietTail
import Derived.BigQuiet
namespace Go.Proofs.Ytmmpdpnonnjadaa
set_option linter.unusedVariables false
set_option linter.unusedSimpArgs false
open Go.RowKit Go.Proofs.YtmmpdpnonnjadaaW.PrintWords Go.Proofs.YtmmpdpnonnjadaaW.PrintLast Go.Proofs.YtmmpdpnonnjadaaW.PrintMore Pr

def takeR (Ps : List Pt) : List Pt × Int × Int := match takeP Ps with
  | some r => (r.1, r.2, 0)
  | none => (Ps, 0, 2)
theorem adr_wrap {c : Int} (hc : 0 ≤ c ∧ c ≤ 3) {page : Int} {k : Nat} (hk : k < perC c) : ∃ d : Int, adr c page k - page * 64 = d ∧ Int.tdiv d (wdC c) = (k : Int) ∧ d / wdC c = (k : Int) ∧ 0 ≤ d ∧ d ≤ 512 := by
  have h1 := adr_in hc (page := page) hk
  have h2 := adr_quo hc page k
  have h3 : 32 ≤ wdC c ∧ wdC c ≤ 256 := by rcases cls_cases hc with h | h | h | h <;> omega
  refine ⟨_, rfl, ?_, h2, by omega, by omega⟩
  rw [Int.tdiv_eq_ediv_of_nonneg (by omega)]
  exact h2
section
variable {F : Nat → Prop} {ga gb gp : Nat} {c : Int} {N : Nat} {M : List Int} {la lb : List (Pt × Nat)} {p : Pt} {g g0 n cap : Nat} {W V : World}
/-- What Take's stores leave. -/
theorem PR.took (h : PR F ga gb gp c N M (la ++ (p, g) :: lb) (.slice (some ⟨g0, 0, none⟩) (la ++ (p, g) :: lb).length cap) W) {x : Int} {l : List Int} (hf : p.free = x :: l) {k : Nat} (hk : k < perC c) (hx : x = adr c p.page k)
    (hb : Below ((W.setCell ⟨g0, la.length * 4 + 1, none⟩ (.int .i64 (hd l))).setCell ⟨g0, la.length * 4 + 2, none⟩ (.int .i64 (l.length : Int))).heap.size ((W.setCell ⟨g0, la.length * 4 + 1, none⟩ (.int .i64 (hd l))).setCell ⟨g0, la.length * 4 + 2, none⟩ (.int .i64 (l.length : Int))) V) :
    PR F ga gb gp c N M (la ++ (⟨p.page, l⟩, g) :: lb) (.slice (some ⟨g0, 0, none⟩) (la ++ (p, g) :: lb).length cap) (V.setCell ⟨g, k, none⟩ (.bool false)) ∧ Kq F W (V.setCell ⟨g, k, none⟩ (.bool false)) := by
  obtain ⟨g0', cap', cur, hv, hF0, _, _, hB0, _⟩ := h.mid
  simp only [Value.slice.injEq, Option.some.injEq, Addr.mk.injEq] at hv
  obtain ⟨⟨rfl, _, _⟩, _, rfl⟩ := hv
  obtain ⟨hBg, hFg, hfit, hch, hne⟩ := h.gmid
  have n1 : ga ≠ g0 := h.ar.st.ne_ hB0 (by decide)
  have n2 : gb ≠ g0 := h.ar.ws.ne_ hB0 (by decide)
  have n3 : gp ≠ g0 := h.pl.ne_ hB0 (by decide)
  have n4 : g ≠ g0 := hBg.ne_ hB0 (by decide)
  have n5 : ga ≠ g := h.ar.st.ne_ hBg (by decide)
  have n6 : gb ≠ g := h.ar.ws.ne_ hBg (by decide)
  have n7 : gp ≠ g := h.pl.ne_ hBg (by decide)
  have k1 : Kp [g0, g] W (V.setCell ⟨g, k, none⟩ (.bool false)) := ((((Kp.refl [g0, g] W).set_ (p := ⟨g0, la.length * 4 + 1, none⟩) (by simp) _).set_ (p := ⟨g0, la.length * 4 + 2, none⟩) (by simp) _).trans (Kp.of_below hb _)).set_ (p := ⟨g, k, none⟩) (by simp) _
  have hn := hfit.2.2.1
  rw [hf] at hn
  have hn2 := List.pairwise_cons.1 hn
  have hc := h.cc
  refine ⟨h.turn (h.ar.kp k1 (by simp; omega) (by simp; omega)) h.ml (h.pl.kp k1 (by simp; omega)) ?_ ?_ (fun q hq => ?_) k1.size ?_ (by rw [hf] at hch; exact hch.2) (fun q hq => h.ch q (by simp at hq ⊢; rcases hq with hq | hq <;> simp [hq])), Kq.of_kp k1 (fun q hq => by simp at hq; rcases hq with rfl | rfl <;> assumption)⟩
  · have r1 := own_set (own_set h.row (la.length * 4 + 1) (.int .i64 (hd l))) (la.length * 4 + 2) (.int .i64 (l.length : Int))
    rw [spF_set] at r1
    exact own_far (own_move r1 (fun k hk => hb.block k (by
      have := hB0.lt
      simp [Value.ownBlock] at hk
      subst hk
      simpa using this))) (by simp [Value.ownBlock]; exact fun e => n4 e.symm) _
  · have b1 := ((hBg.far (p := ⟨g0, la.length * 4 + 1, none⟩) n4 (.int .i64 (hd l))).far (p := ⟨g0, la.length * 4 + 2, none⟩) n4 (.int .i64 (l.length : Int))).kp (Kp.of_below hb []) (by simp)
    have b2 := b1.set_ k (.bool false)
    rw [bls_set hc p l k hk false] at b2
    · exact b2
    · rw [← hx]
      exact (decide_eq_false (fun hm => hn2.1 x hm rfl)).symm
    · intro j hj hjk
      rw [hf, List.mem_cons]
      constructor
      · exact fun h => .inr h
      · rintro (h | h)
        · exact absurd (adr_inj hc (h.trans hx)) hjk
        · exact h
  · have hlt := (h.bo q (by simp at hq ⊢; rcases hq with hq | hq <;> simp [hq])).lt
    have n8 : q.2 ≠ g0 := (h.bo q (by simp at hq ⊢; rcases hq with hq | hq <;> simp [hq])).ne_ hB0 (by decide)
    exact k1.block q.2 hlt (by simp; exact ⟨n8, hne q hq⟩)
  · exact ⟨hfit.1, hfit.2.1, hn2.2, fun y hy => hfit.2.2.2 y (by rw [hf]; simp [hy])⟩
end
set_option maxRecDepth 100000 in
set_option maxHeartbeats 4000000 in
theorem take_pool {F : Nat → Prop} {ga gp : Nat} {c : Int} {N : Nat} {Ps : List Pt} {W : World} (h : PSt F ga gp c N Ps W) :
    Calls Try.prog 12 #[.pointer (some ⟨gp, 0, none⟩), .pointer (some ⟨ga, 0, none⟩)] W fun e w' => e = .returned (.tuple #[.int .i64 (takeR Ps).2.1, .int .i64 (takeR Ps).2.2]) ∧ Aft F ga gp c N (takeR Ps).1 W w' := by
  have hu63 := Try.underlying63
  have HS := Sh.mk h
  obtain ⟨gb, M, L, v, hLP, hp⟩ := h
  rcases takeP_split Ps with ⟨h1, h2, h3⟩ | ⟨pre, p, x, l, suf, h1, h2, h3, h4, h5⟩
  · have HT : Sh (takeR Ps = (Ps, 0, 2)) := ⟨by unfold takeR; rw [h1]⟩
    rw [HT.out]
    obtain ⟨A, cap, rfl, hcap⟩ := hp.slice
    have hc1 := (hp.pl.cell 1).trans (show _ = some (Value.slice A L.length cap) from rfl)
    have HI := Sh.mk (index_pos hp)
    rw [hLP, h3 0] at HI
    clear hp h1 h2 h3 HT hLP
    go_enter Try.func12, Try.ntmps12
    go_wp2_with fail
    (with_reducible refine HI.out.mono ?_); rintro e w1 ⟨rfl, hb⟩
    have HB := Sh.mk hb
    clear hb
    go_wp2
    go_ret2
    exact ⟨rfl, HS.out.same HB.out⟩
  · have HT : Sh (takeR Ps = (pre ++ ⟨p.page, l⟩ :: suf, x, 0)) := ⟨by unfold takeR; rw [h4]⟩
    rw [HT.out]
    obtain ⟨la, g, lb, rfl, hla, hlb⟩ := map_mid (hLP.trans h1)
    have hidx := h5 0
    rw [← hLP] at hidx
    have HI0 : Sh (idxP ((la ++ (p, g) :: lb).map (·.1)) 0 = ((la.length : Nat) : Int)) := ⟨by rw [hidx, ← hla]; simp⟩
    obtain ⟨g0, cap, cur, rfl, hF0, hc2, hc3, hB0, k0, k1, k2, k3⟩ := hp.mid
    have hc1 := (hp.pl.cell 1).trans (show _ = some (Value.slice (some ⟨g0, 0, none⟩) (la ++ (p, g) :: lb).length cap) from rfl)
    have hc0 := (hp.pl.cell 0).trans (show _ = some (Value.int .i64 c) from rfl)
    have HI := Sh.mk (index_pos hp)
    rw [HI0.out] at HI
    have hlen : (la ++ (p, g) :: lb).length ≤ 32 := hp.llen
    have hila : la.length < (la ++ (p, g) :: lb).length := by simp
    obtain ⟨i, hi⟩ : ∃ i, i = la.length := ⟨_, rfl⟩
    obtain ⟨n, hn⟩ : ∃ n, n = (la ++ (p, g) :: lb).length := ⟨_, rfl⟩
    obtain ⟨hBg, hFg, hfit, hch, hne⟩ := hp.gmid
    obtain ⟨k, hk, hxk⟩ := hfit.2.2.2 x (by rw [h3]; simp)
    have hcc := hp.cc
    obtain ⟨d, hd1, hd2, hd3, hd4, hd5⟩ := adr_wrap hcc (page := p.page) hk
    have hper : perC c ≤ 16 := by rcases cls_cases hcc with h | h | h | h <;> omega
    have hlper : p.free.length ≤ perC c := fit_len hfit
    rw [h3] at hlper hch k1 k2
    simp only [List.length_cons] at hlper k2
    have hpg : 0 ≤ p.page ∧ p.page ≤ 256 := ⟨hfit.1, by have := hfit.2.1; have := hp.nn; omega⟩
    have HP := Sh.mk hp
    have HPOP : Sh (∀ V : World, Below W.heap.size W V → Calls Try.prog 31 #[.pointer (some ⟨ga, 0, none⟩), .int .i64 (x + 1)] V fun e w' => e = .returned (.tuple #[.int .i64 x, .int .i64 (hd l), .int .i64 0]) ∧ V = w') := ⟨fun V hV => by
      have hb := free_bd hcc hfit (show x ∈ p.free by rw [h3]; simp)
      have hnn := HP.out.nn
      have := pop_any ga gb M (x + 1) V (HP.out.below hV).ar (by omega) (by omega)
      rw [popS_chn hch HP.out.ar.small] at this
      exact this⟩
    have HFIN : Sh (∀ V, Below ((W.setCell ⟨g0, i * 4 + 1, none⟩ (.int .i64 (hd l))).setCell ⟨g0, i * 4 + 2, none⟩ (.int .i64 (l.length : Int))).heap.size ((W.setCell ⟨g0, i * 4 + 1, none⟩ (.int .i64 (hd l))).setCell ⟨g0, i * 4 + 2, none⟩ (.int .i64 (l.length : Int))) V → True) := ⟨fun _ _ => trivial⟩
    clear HFIN
    have HTOOK : Sh (∀ w1 : World, Below W.heap.size W w1 → ∀ V, Below ((w1.setCell ⟨g0, i * 4 + 1, none⟩ (.int .i64 (hd l))).setCell ⟨g0, i * 4 + 2, none⟩ (.int .i64 (l.length : Int))).heap.size ((w1.setCell ⟨g0, i * 4 + 1, none⟩ (.int .i64 (hd l))).setCell ⟨g0, i * 4 + 2, none⟩ (.int .i64 (l.length : Int))) V → Aft F ga gp c N (pre ++ ⟨p.page, l⟩ :: suf) W (V.setCell ⟨g, k, none⟩ (.bool false))) := ⟨fun w1 hw1 V hV => by
      subst hi
      obtain ⟨q1, q2⟩ := PR.took (HP.out.below hw1) h3 hk hxk hV
      exact ⟨F, ⟨gb, M, _, _, by rw [List.map_append, List.map_cons, hla, hlb], q1⟩, fun k hk => .inl hk, (Kq.of_below (F := F) hw1).step q2 (fun g hg => .inl hg)⟩⟩
    have hfzk : W.frozen? ⟨g0, i * 4 + 1, none⟩ = false := hB0.frozen _
    have HBG := Sh.mk hBg
    have HB0 := Sh.mk hB0
    have HKC : Sh (∀ w1 : World, Below W.heap.size W w1 → ∀ V, Below ((w1.setCell ⟨g0, i * 4 + 1, none⟩ (.int .i64 (hd l))).setCell ⟨g0, i * 4 + 2, none⟩ (.int .i64 (l.length : Int))).heap.size ((w1.setCell ⟨g0, i * 4 + 1, none⟩ (.int .i64 (hd l))).setCell ⟨g0, i * 4 + 2, none⟩ (.int .i64 (l.length : Int))) V →
        V.cell? ⟨g0, i * 4, none⟩ = some (.int .i64 p.page) ∧ V.cell? ⟨g0, i * 4 + 3, none⟩ = some (.slice (some ⟨g, 0, none⟩) (perC c) (perC c)) ∧ V.cell? ⟨gp, 0, none⟩ = some (.int .i64 c) ∧ V.cell? ⟨g, k, none⟩ = some (.bool true) ∧ V.frozen? ⟨g, k, none⟩ = false) := ⟨fun w1 hw1 V hV => by
      subst hi
      have hp1 := HP.out.below hw1
      obtain ⟨g0', cap', cur', hv, _, _, _, hB1, _, _, _, _⟩ := hp1.mid
      simp only [Value.slice.injEq, Option.some.injEq, Addr.mk.injEq] at hv
      obtain ⟨⟨rfl, _, _⟩, _, rfl⟩ := hv
      obtain ⟨hBg1, _, _, _, _⟩ := hp1.gmid
      have hrow := own_move (own_set (own_set hp1.row (la.length * 4 + 1) (.int .i64 (hd l))) (la.length * 4 + 2) (.int .i64 (l.length : Int))) (fun k hk => hV.block k (by
        have := hB1.lt
        simp [Value.ownBlock] at hk
        subst hk
        simpa using this))
      rw [spF_set] at hrow
      have n4 : g ≠ g0 := hBg1.ne_ hB1 (by decide)
      have n3 : gp ≠ g0 := hp1.pl.ne_ hB1 (by decide)
      have b1 := ((hBg1.far (p := ⟨g0, la.length * 4 + 1, none⟩) n4 (.int .i64 (hd l))).far (p := ⟨g0, la.length * 4 + 2, none⟩) n4 (.int .i64 (l.length : Int))).kp (Kp.of_below hV []) (by simp)
      have b2 := ((hp1.pl.far (p := ⟨g0, la.length * 4 + 1, none⟩) n3 (.int .i64 (hd l))).far (p := ⟨g0, la.length * 4 + 2, none⟩) n3 (.int .i64 (l.length : Int))).kp (Kp.of_below hV []) (by simp)
      rcases hrow.2 with ⟨h0, _⟩ | ⟨g9, cap9, cur9, hv9, _, hg9, hnc9, _, _, htk9⟩
      · cases h0
      · simp only [Value.slice.injEq, Option.some.injEq, Addr.mk.injEq] at hv9
        obtain ⟨⟨rfl, _, _⟩, _, rfl⟩ := hv9
        have key : ∀ j, j < 4 → V.cell? ⟨g0, la.length * 4 + j, none⟩ = (spE c (⟨p.page, l⟩, g))[j]? := fun j hj => by
          rw [show V.cell? ⟨g0, la.length * 4 + j, none⟩ = cur9[la.length * 4 + j]? from Blk.cell (show Blk V g0 63 cur9 from hg9) _]
          have h8 := spF_at c la lb ((⟨p.page, l⟩ : Pt), g) j hj
          rw [← htk9, List.getElem?_take, if_pos (by rw [hn] at *; omega)] at h8
          rw [← h8]; simp
        refine ⟨key 0 (by omega), key 3 (by omega), (b2.cell 0).trans rfl, ?_, b1.frozen k⟩
        rw [b1.cell k, bls_at c p k hk, h3, hxk]
        simp⟩
    have vt : IntKind.i64.wrap (((l.length : Int) + 1) - 1) = (l.length : Int) := by rw [IntKind.wrap_i64]; omega
    obtain ⟨m, hm⟩ : ∃ m : Int, m = (l.length : Int) + 1 := ⟨_, rfl⟩
    rw [show ((l.length + 1 : Nat) : Int) = m by omega] at k2
    rw [← hm] at vt
    obtain ⟨hl, hhl⟩ : ∃ y, y = hd l := ⟨_, rfl⟩
    obtain ⟨x4, hx4⟩ : ∃ y, y = perC c := ⟨_, rfl⟩
    obtain ⟨wd, hwd⟩ : ∃ y, y = wdC c := ⟨_, rfl⟩
    obtain ⟨pg, hpge⟩ : ∃ y, y = p.page := ⟨_, rfl⟩
    obtain ⟨ln, hln⟩ : ∃ y : Int, y = (l.length : Int) := ⟨_, rfl⟩
    have HWD : Sh (∀ V : World, Calls Try.prog 32 #[.int .i64 c] V fun e w' => e = .returned (.int .i64 wd) ∧ Below V.heap.size V w') := ⟨fun V => by rw [hwd]; exact words_c hcc V⟩
    rw [← hxk] at hd1
    rw [← hpge] at hd1 hpg k0 HKC
    rw [← hi] at k0 k1 k2 k3 HI hila
    rw [← hn] at hc1 HI hila hlen
    rw [← hx4] at k3 HKC hk hper
    rw [← hwd] at hd2 hd3
    rw [← hhl] at HPOP HKC HTOOK
    rw [← hln] at HKC HTOOK vt
    have hhd : hd (x :: l) = x + 1 := rfl
    rw [hhd] at k1
    have w2 : IntKind.i64.wrap (pg * 64) = pg * 64 := by rw [IntKind.wrap_i64]; omega
    have w3 : IntKind.i64.wrap (x - pg * 64) = d := by rw [hd1, IntKind.wrap_i64]; omega
    have hkb : (k : Int) < (x4 : Int) ∧ k ≤ 16 := by omega
    have HW4 : Sh (wrap64 (k : Int) = (k : Int)) := ⟨by unfold wrap64; omega⟩
    have hwdp : 32 ≤ wd ∧ wd ≤ 256 := by rw [hwd]; rcases cls_cases hcc with h | h | h | h <;> omega
    clear hp HI0 hidx h1 h2 h3 h4 h5 hla hlb HT hLP hch hfit hcc hlper hxk hhl hx4 hwd hpge hln hm hhd hd1 hd4 hd5 hi hn hB0 hBg hne hF0 hFg hc3 hpg hfzk
    go_enter Try.func12, Try.ntmps12
    go_wp2_with fail
    (with_reducible refine HI.out.mono ?_); rintro e w1 ⟨rfl, hb⟩
    have HB := Sh.mk hb
    have e1 := (hb.cell (World.block_lt_of_cell? _ _ hc1)).trans hc1
    have e0 := (hb.cell (World.block_lt_of_cell? _ _ hc0)).trans hc0
    have f0 := (hb.cell (World.block_lt_of_cell? _ _ k0)).trans k0
    have f1 := (hb.cell (World.block_lt_of_cell? _ _ k1)).trans k1
    have f2 := (hb.cell (World.block_lt_of_cell? _ _ k2)).trans k2
    have f3 := (hb.cell (World.block_lt_of_cell? _ _ k3)).trans k3
    have z1 := (HB0.out.kp (Kp.of_below hb []) (by simp)).frozen (i * 4 + 1)
    have z2 := (HB0.out.kp (Kp.of_below hb []) (by simp)).frozen (i * 4 + 2)
    clear hb hc1 hc0 k0 k1 k2 k3
    go_wp2_with fail
    (with_reducible refine (HPOP.out w1 HB.out).mono ?_); rintro e w2 ⟨rfl, rfl⟩
    go_upto_region 11 with fail
    obtain ⟨wz, hwz⟩ : ∃ z, z = (w1.setCell ⟨g0, i * 4 + 1, none⟩ (.int .i64 hl)).setCell ⟨g0, i * 4 + 2, none⟩ (.int .i64 ln) := ⟨_, rfl⟩
    have HKZ := Sh.mk (HKC.out w1 HB.out)
    have HTZ := Sh.mk (HTOOK.out w1 HB.out)
    rw [← hwz] at HKZ HTZ ⊢
    clear hwz HKC HTOOK e0 e1 f0 f1 f2 f3 z1 z2 HPOP HI
    have w4 := HW4.out
    have q0 : ∀ p : Bel wz, p.u.cell? ⟨g0, i * 4, none⟩ = some (.int .i64 pg) := fun p => (HKZ.out p.u p.h).1
    have q1 : ∀ p : Bel wz, p.u.cell? ⟨g0, i * 4 + 3, none⟩ = some (.slice (some ⟨g, 0, none⟩) x4 x4) := fun p => (HKZ.out p.u p.h).2.1
    have q2 : ∀ p : Bel wz, p.u.cell? ⟨gp, 0, none⟩ = some (.int .i64 c) := fun p => (HKZ.out p.u p.h).2.2.1
    refine wp_region_below_tail 18 (by kernel_rfl) (by kernel_rfl) ?_
    simp only [List.take_succ_cons, List.take_zero, List.drop_succ_cons, List.drop_zero]
    repeat (go_big_quiet_step (first | (go_at_call 32; with_reducible refine Calls.bel_of (HWD.out _))))
    refine wpQuiet_nil ?_
    intro _ hw'
    obtain ⟨pp, hw''⟩ := hw'
    subst hw''
    have HQ := Sh.mk (HTZ.out pp.u pp.h)
    obtain ⟨-, -, -, r3, r4⟩ := HKZ.out pp.u pp.h
    generalize pp.u = wq at HQ r3 r4 ⊢
    clear q0 q1 q2 w4 HKZ HTZ
    go_wp2
    go_ret2
    exact ⟨rfl, HQ.out⟩
end Go.Proofs.Ytmmpdpnonnjadaa
