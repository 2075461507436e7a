/- lin.Order: its contract. No statement is proved here. -/
import Derived.Test.YtpddppipjlagfaaLinNext
import Derived.Test.YtpddppipjlagfaaLinLaw
import Derived.Test.YtpddppipjlagfaaPure
namespace Go.Proofs.Ytpddppipjlagfaa
set_option linter.unusedVariables false
set_option linter.unusedSimpArgs false
open Go.RowKit Go.Proofs.YtpddppipjlagfaaW.PrintWords Go.Proofs.YtpddppipjlagfaaW.PrintLast Go.Proofs.YtpddppipjlagfaaW.PrintMore Pr Go.Proofs.Ytpddppipjlagfaa.Pure Go.Proofs.Ytpddppipjlagfaa.Dfs

/-- A model as its cells lie: the words, the header of what is live. -/
structure SM where
  f0 : Int
  A : Option Addr
  n : Nat
  c : Nat
def khd : Kd (Option Addr × Nat × Nat) := Kd.scalar (fun x => .slice x.1 x.2.1 x.2.2) (fun _ => rfl)
def ksm : Kd SM := Kd.iso (Kd.pair (Kd.int .i64) khd) (fun x : SM => (x.f0, (x.A, x.n, x.c)))
theorem ksm_open {w : World} {x : SM} {cs : List Value} (h : ksm.K w x cs) : cs = [.int .i64 x.f0, .slice x.A x.n x.c] := by
  obtain ⟨_, _, rfl, rfl, rfl⟩ := h
  rfl
theorem ksm_mk (w : World) (x : SM) : ksm.K w x [.int .i64 x.f0, .slice x.A x.n x.c] := ⟨[.int .i64 x.f0], [.slice x.A x.n x.c], rfl, rfl, rfl⟩
theorem ksm_mkM (w : World) (base : Nat) (ok : Nat → Prop) (x : SM) : ksm.M w base ok x [.int .i64 x.f0, .slice x.A x.n x.c] := ⟨[.int .i64 x.f0], [.slice x.A x.n x.c], rfl, rfl, rfl⟩
theorem infoM : (Try.prog.info? 43).map (fun i => (i.zero, i.size, i.bytes)) = some (some (.agg #[.int .i64 0, .slice none 0 0]), 2, 32) := by kernel_rfl
def rdM (ms : List SM) (j : Nat) : SM := ms.getD j ⟨0, none, 0, 0⟩
theorem at_SM {w : World} {A : Option Addr} {n : Nat} {ms : List SM} (h : Kd.C ksm w A n ms) (j : Nat) (h1 : j < n) : ∃ ad, A = some ad ∧ w.cell? (ad.add (j * 2)) = some (.int .i64 (rdM ms j).f0) ∧ w.cell? ⟨(ad.add (j * 2)).block, (ad.add (j * 2)).off + 1, none⟩ = some (.slice (rdM ms j).A (rdM ms j).n (rdM ms j).c) := by
  obtain ⟨ad, c, e, _, hK, hc0⟩ := Kd.C_get h (⟨0, none, 0, 0⟩ : SM) (j : Int) (by omega) (by omega)
  rw [Int.toNat_natCast] at hK hc0
  have hc : ∀ i u, c[i]? = some u → w.cell? (ad.add (j * 2 + i)) = some u := hc0
  obtain rfl := ksm_open hK
  exact ⟨ad, e, hc 0 _ rfl, by rw [← add_field _ _ 1 (by omega)]; exact hc 1 _ rfl⟩
theorem R_oneM {W : World} {g b : Nat} {x : SM} (hb : W.heap[g]? = some (.cells #[.int .i64 x.f0, .slice x.A x.n x.c] 43 (0, 0))) (hg : b ≤ g) : Kd.R ksm 43 W b (fun _ => True) (.slice (some ⟨g, 0, none⟩) 1 1) [x] :=
  ⟨fun _ _ => trivial, [.int .i64 x.f0, .slice x.A x.n x.c], ⟨rfl, .inr ⟨g, 1, #[.int .i64 x.f0, .slice x.A x.n x.c], rfl, hg, hb, Nat.le_refl _, by decide, rfl, rfl⟩⟩, ⟨rfl, fun j p hj => by
    cases j with
    | zero =>
      obtain rfl : x = p := by simpa using hj
      exact ksm_mkM _ _ _ x
    | succ j => simp at hj⟩⟩
/-- The rows of a search: the order, the models behind each of its places. -/
structure LR (w : World) (m : Int) (qs : Nat → List Lv) (vo vm : Value) (os : List Int) (ms : List SM) (W : World) : Prop where
  bl : Below w.heap.size w W
  ro : Kd.R (Kd.int .i64) 3 W w.heap.size (fun _ => True) vo os
  rm : Kd.R ksm 43 W w.heap.size (fun _ => True) vm ms
  rows : ∀ j, j < ms.length → (rdM ms j).f0 = m ∧ (rdM ms j).n = (qs j).length ∧ (qs j).length ≤ (rdM ms j).c ∧ Kd.F k59 W (fun k => (True ∧ some k ≠ vo.ownBlock) ∧ some k ≠ vm.ownBlock) (rdM ms j).A (qs j).length (qs j)
def qsP (m : Int) (l : List Oq) (P : List Nat) (j : Nat) : List Lv := (accsL m [] (deedsF l (upI (P.take j)))).1
section
variable {w : World} {m : Int} {qs : Nat → List Lv} {vo vm v1 : Value} {os : List Int} {ms : List SM} {W W' w1 : World}
theorem LR.below (r : LR w m qs vo vm os ms W) (h : Below W.heap.size W W') : LR w m qs vo vm os ms W' :=
  ⟨below_step r.bl h, Kd.R_below r.ro h, Kd.R_below r.rm h, fun j hj => ⟨(r.rows j hj).1, (r.rows j hj).2.1, (r.rows j hj).2.2.1, Kd.F_below (r.rows j hj).2.2.2 h⟩⟩
theorem LR.requs (r : LR w m qs vo vm os ms W) {qs' : Nat → List Lv} (h : ∀ j, j < ms.length → qs' j = qs j) : LR w m qs' vo vm os ms W :=
  ⟨r.bl, r.ro, r.rm, fun j hj => by rw [h j hj]; exact r.rows j hj⟩
theorem F_appO {A : Option Addr} {n : Nat} {xs : List Lv} (h : Kd.F k59 W (fun k => (True ∧ some k ≠ vo.ownBlock) ∧ some k ≠ vm.ownBlock) A n xs) (hg : W.grownBy w1 vo.ownBlock) (hat : v1.ownBlock = vo.ownBlock ∨ ∃ b, v1.ownBlock = some b ∧ W.heap.size ≤ b) : Kd.F k59 w1 (fun k => (True ∧ some k ≠ v1.ownBlock) ∧ some k ≠ vm.ownBlock) A n xs :=
  Kd.F_mono (Kd.F_after (v := vo) (ok := fun k => True ∧ some k ≠ vm.ownBlock) (Kd.F_mono h (fun k hk => ⟨⟨trivial, hk.2⟩, hk.1.2⟩)) hg hat) (fun k hk => ⟨⟨trivial, hk.2⟩, hk.1.2⟩)
theorem C_oneI {g : Nat} {x : Int} (hb : W.heap[g]? = some (.cells #[.int .i64 x] 3 (0, 0))) : Kd.C (Kd.int .i64) W (some ⟨g, 0, none⟩) 1 [x] := by
  have h : Kd.R (Kd.int .i64) 3 W g (fun _ => True) (.slice (some ⟨g, 0, none⟩) 1 1) [x] :=
    ⟨fun _ _ => trivial, [.int .i64 x], ⟨rfl, .inr ⟨g, 1, #[.int .i64 x], rfl, Nat.le_refl _, hb, Nat.le_refl _, by decide, rfl, rfl⟩⟩, ⟨rfl, fun j p hj => by
      cases j with
      | zero =>
        obtain rfl : x = p := by simpa using hj
        rfl
      | succ j => simp at hj⟩⟩
  exact (Kd.R_reads' h).2.2
theorem C_oneM {g : Nat} {x : SM} (hb : W.heap[g]? = some (.cells #[.int .i64 x.f0, .slice x.A x.n x.c] 43 (0, 0))) : Kd.C ksm W (some ⟨g, 0, none⟩) 1 [x] :=
  (Kd.R_reads' (R_oneM (b := g) hb (Nat.le_refl _))).2.2
theorem rows_oneM {w0 : World} {g : Nat} {x : SM} (hb : W.heap[g]? = some (.cells #[.int .i64 x.f0, .slice x.A x.n x.c] 43 (0, 0))) : ReadsRow (ksm.K w0) ksm.sz W (some ⟨g, 0, none⟩) 1 [x] :=
  have h : ReadsRow (ksm.K W) ksm.sz W (some ⟨g, 0, none⟩) 1 [x] := C_oneM hb
  h
theorem blkS {g : Nat} {u v : Value} {t : Nat} (h : W.heap[g]? = some (.cells #[u, v] t (0, 0))) : W.cell? ⟨g, 0, none⟩ = some u ∧ W.cell? ⟨g, 1, none⟩ = some v := ⟨(blk_cell h 0).trans rfl, (blk_cell h 1).trans rfl⟩
theorem rdM_app (ms : List SM) (a : SM) (j : Nat) : rdM (ms ++ [a]) j = if j < ms.length then rdM ms j else if j = ms.length then a else ⟨0, none, 0, 0⟩ := by
  unfold rdM
  rw [List.getD_eq_getElem?_getD, List.getD_eq_getElem?_getD]
  split
  · next h => rw [List.getElem?_append_left h]
  · next h =>
    split
    · next h2 => subst h2; simp
    · next h2 => rw [List.getElem?_eq_none (by simp; omega)]; rfl
theorem LR.appO (r : LR w m qs vo vm os ms W) {x : Int} (h : Kd.R (Kd.int .i64) 3 w1 w.heap.size (fun _ => True) v1 (os ++ [x])) (hb : Below w.heap.size w w1) (hg : W.grownBy w1 vo.ownBlock) (hat : v1.ownBlock = vo.ownBlock ∨ ∃ b, v1.ownBlock = some b ∧ W.heap.size ≤ b) : LR w m qs v1 vm (os ++ [x]) ms w1 :=
  ⟨hb, h, Kd.R_over r.rm r.ro (by intro q hq; simp [ksm, khd, Kd.iso, Kd.pair, Kd.scalar, Kd.int] at hq; subst hq; decide) hg, fun j hj => ⟨(r.rows j hj).1, (r.rows j hj).2.1, (r.rows j hj).2.2.1,
    Kd.F_mono (Kd.F_after (v := vo) (ok := fun k => True ∧ some k ≠ vm.ownBlock) (Kd.F_mono (r.rows j hj).2.2.2 (fun k hk => ⟨⟨trivial, hk.2⟩, hk.1.2⟩)) hg hat) (fun k hk => ⟨⟨trivial, hk.2⟩, hk.1.2⟩)⟩⟩
theorem LR.appM (r : LR w m qs vo vm os ms W) {a : SM} (h : Kd.R ksm 43 w1 w.heap.size (fun _ => True) v1 (ms ++ [a])) (hb : Below w.heap.size w w1) (hg : W.grownBy w1 vm.ownBlock) (hat : v1.ownBlock = vm.ownBlock ∨ ∃ b, v1.ownBlock = some b ∧ W.heap.size ≤ b)
    (h0 : a.f0 = m) (h1 : a.n = (qs ms.length).length) (h2 : (qs ms.length).length ≤ a.c) (hF : Kd.F k59 W (fun k => (True ∧ some k ≠ vo.ownBlock) ∧ some k ≠ vm.ownBlock) a.A (qs ms.length).length (qs ms.length)) : LR w m qs vo v1 os (ms ++ [a]) w1 :=
  ⟨hb, Kd.R_over r.ro r.rm (by intro q hq; simp [Kd.scalar, Kd.int] at hq; subst hq; decide) hg, h, fun j hj => by
    rw [rdM_app]
    rw [List.length_append, List.length_singleton] at hj
    split
    · next c => exact ⟨(r.rows j c).1, (r.rows j c).2.1, (r.rows j c).2.2.1, Kd.F_after (r.rows j c).2.2.2 hg hat⟩
    · next c =>
      obtain rfl : j = ms.length := by omega
      rw [if_pos rfl]
      exact ⟨h0, h1, h2, Kd.F_after hF hg hat⟩⟩
theorem ownB (A : Option Addr) (i j c : Nat) : (Value.slice A i c).ownBlock = (Value.slice A j c).ownBlock := by cases A <;> rfl
theorem LR.cut (r : LR w m qs vo vm os ms W) {A B : Option Addr} {c d i j : Nat} (ho : vo = .slice A os.length c) (hm : vm = .slice B ms.length d) (hi : i ≤ os.length) (hj : j ≤ ms.length) : LR w m qs (.slice A i c) (.slice B j d) (os.take i) (ms.take j) W := by
  subst ho
  subst hm
  refine ⟨r.bl, Kd.R_take r.ro hi, Kd.R_take r.rm hj, fun k hk => ?_⟩
  have hk2 : k < ms.length := by rw [List.length_take] at hk; omega
  have hk3 : k < j := by rw [List.length_take] at hk; omega
  have e : rdM (ms.take j) k = rdM ms k := by
    unfold rdM
    rw [List.getD_eq_getElem?_getD, List.getD_eq_getElem?_getD, List.getElem?_take_of_lt hk3]
  rw [e, ownB A i os.length c, ownB B j ms.length d]
  exact r.rows k hk2
end
set_option maxRecDepth 100000 in
set_option maxHeartbeats 32000000 in
theorem order_any (m : Int) (A : Option Addr) (c : Nat) (l : List Oq) (w : World) (hm : mOk m) (hr : Kd.C k40 w A l.length l) (hc : l.length ≤ c) (hl : l.length ≤ 500) :
    Calls Try.prog 13 #[.int .i64 m, .slice A l.length c] w (OrdPost m l w) := by
  have hu := Try.underlying40
  have hu2 := Try.underlying43
  have HR := Sh.mk hr
  have HMM := Sh.mk hm
  have CMM := Sh.mk hm
  have HM := Sh.mk (lin_May.calls A c l (mayB l) w hr hc (mayl_is l (by omega)))
  clear hr hm
  go_enter Try.func13, Try.ntmps13
  go_wp2
  refine wp_scope_body ?_
  go_wp2_with fail
  (with_reducible refine HM.out.mono ?_); rintro e w1 ⟨rfl, b⟩
  have B3 := Sh.mk b
  clear b HM
  cases c1 : mayB l with
  | false =>
    have HV : Sh (ordP m l none) := ⟨by unfold ordP; rw [if_neg (by simp [c1])]⟩
    clear c1
    go_wp2
    refine bodyPost_ret (v := .tuple #[.slice none 0 0, .bool false]) (by simp [results, Try.results13, go_sem]) rfl ?_
    exact ⟨none, HV.out, .slice none 0 0, rfl, Kd.R_nil _ _ _ _ _, B3.out⟩
  | true =>
  by_cases c2 : l.length ≤ 8
  case neg =>
    have HV : Sh (ordP m l none) := ⟨by unfold ordP; rw [if_neg (fun h => c2 h.2)]⟩
    have d1 : decide (8 < l.length) = true := decide_eq_true (by omega)
    have d2 : decide ((8 : Int) < (l.length : Int)) = true := decide_eq_true (by omega)
    clear c1
    go_wp2
    refine bodyPost_ret (v := .tuple #[.slice none 0 0, .bool false]) (by simp [results, Try.results13, go_sem]) rfl ?_
    exact ⟨none, HV.out, .slice none 0 0, rfl, Kd.R_nil _ _ _ _ _, B3.out⟩
  case pos =>
  have CB := Sh.mk (And.intro c1 c2)
  have d1 : decide (8 < l.length) = false := decide_eq_false (by omega)
  have d2 : decide ((8 : Int) < (l.length : Int)) = false := decide_eq_false (by omega)
  clear c1
  go_wp2_with fail
  (with_reducible refine (new_any m _).mono ?_); rintro e w2 ⟨rfl, b⟩
  have B4 : Sh (Below w.heap.size w w2) := ⟨below_then B3.out B3.out.size b⟩
  clear b
  have HL0 : Sh (LR w m (qsP m l []) (.slice none 0 0) (.slice (some ⟨w2.heap.size, 0, none⟩) 1 1) [] [⟨m, none, 0, 0⟩] (w2.alloc (.cells #[.int .i64 m, .slice none 0 0] 43))) :=
    ⟨⟨below_alloc B4.out _, Kd.R_nil _ _ _ _ _, R_oneM (x := ⟨m, none, 0, 0⟩) (blk_new _ _) B4.out.size, fun j hj => by
      obtain rfl : j = 0 := by simpa using hj
      exact ⟨rfl, rfl, Nat.le_refl _, Kd.F_nil _ _ _⟩⟩⟩
  go_wp2
  go_step3
  go_wp2
  clear d1 d2 B3 B4
  go_loopg [6, 7, 8] (mu l.length [] 0) (fun g vm vo f wr => ∃ (P : List Nat) (fi : Nat) (ms : List SM), f = .int .i64 (fi : Nat) ∧ Sh (g = mu l.length P fi ∧ SI m l P fi ∧ (∀ k, Good m l (upI (P.take k))) ∧ ms.length = P.length + 1) ∧ Sh (LR w m (qsP m l P) vo vm (upI P) ms wr))
  case atStart => exact ⟨[], 0, _, rfl, ⟨rfl, SI.start m l, fun k => by rw [List.take_nil]; exact Good.nil m l, rfl⟩, HL0⟩
  case round =>
    clear HL0
    obtain ⟨P, fi, ms, rfl, HS, HL⟩ := hrel
    obtain ⟨o, ho⟩ : ∃ o, o = upI P := ⟨_, rfl⟩
    have hol : o.length ≤ 8 := by have := HS.out.2.1.len; rw [ho, upI_len]; have := CB.out.2; omega
    have hml : ms.length = o.length + 1 := by rw [HS.out.2.2.2, ho, upI_len]
    have HG : Sh (Good m l o) := ⟨by have := HS.out.2.2.1 P.length; rw [List.take_length] at this; rw [ho]; exact this⟩
    rw [← ho] at HL
    have HP := Sh.mk ho
    have HML := Sh.mk hml
    have hms : ms.length ≤ 9 := by omega
    clear ho hml
    obtain ⟨Ao, co, eo⟩ := Kd.R_slice HL.out.ro
    subst eo
    obtain ⟨Am, cm, em⟩ := Kd.R_slice HL.out.rm
    subst em
    have HRO := Sh.mk (Kd.R_reads' HL.out.ro)
    obtain ⟨kf, hkf⟩ := (full_ev l o (by omega) (by omega)).rounds
    have HF := Sh.mk (lin_full.calls kf A c l Ao co o _ wr (Kd.C_below HR.out HL.out.bl) hc HRO.out.2.2 HRO.out.2.1 hkf)
    clear hkf
    go_wp2_with fail
    (with_reducible refine HF.out.mono ?_); rintro e w3 ⟨rfl, b⟩
    have HL3 := Sh.mk (HL.out.below b)
    clear b HF HL HRO
    cases cf : fullB l o with
    | true =>
      have HI := Sh.mk (HS.out.2.1.done (show FN m l P by unfold FN; rw [← HP.out, HG.out.fits CB.out.1]; exact cf))
      clear cf
      go_wp2
      refine bodyPost_ret (v := .tuple #[.slice Ao o.length co, .bool true]) (by simp [results, Try.results13, go_sem]) rfl ?_
      exact ⟨some P, by unfold ordP; rw [if_pos CB.out]; exact HI.out, .slice Ao o.length co, rfl, by show Kd.R _ _ _ _ _ _ (upI P); rw [← HP.out]; exact HL3.out.ro, HL3.out.bl⟩
    | false =>
    have HNF : Sh (¬ FN m l P) := ⟨by unfold FN; rw [← HP.out, HG.out.fits CB.out.1, cf]; simp⟩
    clear cf
    obtain ⟨q, hq⟩ : ∃ q, q = (accsL m [] (deedsF l o)).1 := ⟨_, rfl⟩
    have HQ := Sh.mk hq
    have HQP : Sh (qsP m l P o.length = q) := ⟨by rw [hq, HP.out, upI_len]; unfold qsP; rw [List.take_length]⟩
    have hql : q.length ≤ 8 := by
      have := (accs_rt CMM.out (deedsF l o) [] trivial).2
      rw [hq]
      rw [deedsF_len] at this
      simp at this
      omega
    have HRT : Sh (rtL m q) := ⟨by rw [hq]; exact (accs_rt CMM.out (deedsF l o) [] trivial).1⟩
    clear hq
    obtain ⟨wa, hwa⟩ : ∃ x, x = wr := ⟨_, rfl⟩
    clear hwa
    go_wp2
    go_loopg [6, 7, 8, 10] (l.length - fi) (fun g2 v6 v7 v8 xv wr => ∃ x : Nat, v6 = .slice Am ms.length cm ∧ v7 = .slice Ao o.length co ∧ v8 = .int .i64 (fi : Nat) ∧ fi ≤ x ∧ x ≤ l.length ∧ xv = .int .i64 (x : Nat) ∧ Sh (g2 = l.length - x) ∧ Sh (∀ y, fi ≤ y → y < x → nxtN m l o q (y : Int) = false) ∧ Sh (LR w m (qsP m l P) (.slice Ao o.length co) (.slice Am ms.length cm) o ms wr))
    case atStart => exact ⟨fi, rfl, rfl, rfl, Nat.le_refl _, HS.out.2.1.fl, rfl, ⟨rfl⟩, ⟨fun y h1 h2 => by omega⟩, HL3⟩
    case round =>
      clear HL3
      obtain ⟨x, rfl, rfl, rfl, hx1, hx2, rfl, HG2, HNO, HL⟩ := hrel
      have HRO := Sh.mk (Kd.R_reads' HL.out.ro)
      have HRM := Sh.mk (Kd.R_reads' HL.out.rm)
      by_cases hlt : x < l.length
      · have d1 : decide (x < l.length) = true := decide_eq_true hlt
        have d2 : decide ((x : Int) < (l.length : Int)) = true := decide_eq_true (by omega)
        have HLO0 := Sh.mk (Kd.R_lt HL.out.ro)
        have HLM0 := Sh.mk (Kd.R_lt HL.out.rm)
        obtain ⟨adm, rfl, m0, m1⟩ := at_SM HRM.out.2.2 o.length (by have := HML.out; omega)
        obtain ⟨r0, r1, r2, r3⟩ := HL.out.rows o.length (by have := HML.out; omega)
        rw [HQP.out] at r1 r2 r3
        rw [r0] at m0
        obtain ⟨A0, hA0⟩ : ∃ A0, A0 = (rdM ms o.length).A := ⟨_, rfl⟩
        obtain ⟨c0, hc0⟩ : ∃ c0, c0 = (rdM ms o.length).c := ⟨_, rfl⟩
        rw [r1, ← hA0, ← hc0] at m1
        rw [← hc0] at r2
        rw [← hA0] at r3
        have HN := Sh.mk (next_any m A0 c0 q A c l Ao co o (x : Int) wr HMM.out (Kd.F_now r3) r2 HRT.out (by omega) (Kd.C_below HR.out HL.out.bl) hc HRO.out.2.2 HRO.out.2.1 (by omega) (by omega) ⟨by omega, by omega⟩)
        have i0 : (0 : Int) ≤ (o.length : Int) := by omega
        have i1 : (o.length : Int) < (ms.length : Int) := by have := HML.out; omega
        clear r0 r1 r2 r3 hA0 hc0
        go_wp2_with fail
        (with_reducible refine HN.out.mono ?_); rintro e w4 ⟨mm, A9, n9, c9, rfl, hpost, b⟩
        have HL4 := Sh.mk (HL.out.below b)
        have HPO := Sh.mk hpost
        clear hpost HN m0 m1 HL
        cases cm9 : nxtN m l o q (x : Int) with
        | false =>
          have HNO2 : Sh (∀ y, fi ≤ y → y < x + 1 → nxtN m l o q (y : Int) = false) := ⟨fun y h1 h2 => by
            by_cases e : y = x
            · subst e; exact cm9
            · exact HNO.out y h1 (by omega)⟩
          have HL5 := Sh.mk (HL4.out.below (below_alloc (Below.refl _ _) (.cells #[.int .i64 mm, .slice A9 n9 c9] 43)))
          clear cm9 b
          go_wp2
          go_roundg (l.length - (x + 1))
          case measure => have := HG2.out; omega
          case rel => exact ⟨x + 1, rfl, rfl, rfl, by omega, by omega, by go_num, ⟨rfl⟩, HNO2, HL5⟩
        | true =>
          obtain ⟨e8, e9, hc9, hF9⟩ := HPO.out cm9
          subst mm
          obtain ⟨q9, hq9⟩ : ∃ q9, q9 = (accR m q (opL l (x : Int)).f0).2.1 := ⟨_, rfl⟩
          rw [← hq9] at e9 hF9
          subst n9
          have hlo := Kd.R_lt HL4.out.ro
          have hlm := Kd.R_lt HL4.out.rm
          have HGS := Sh.mk (HG.out.snoc CB.out.1 (show inB l (x : Int) = true by unfold inB; simp; omega) (by rw [← HQ.out]; exact cm9))
          have HSI := Sh.mk (HS.out.2.1.push HNF.out hx1 hlt (by rw [← HP.out]; exact nxt_new cm9) (fun y h1 h2 S => no_nxt (by rw [← HP.out, ← HQ.out]; exact HNO.out y h1 h2) S))
          obtain ⟨qs, hqs⟩ : ∃ qs, qs = qsP m l (P ++ [x]) := ⟨_, rfl⟩
          have HLQ : Sh (LR w m qs (.slice Ao o.length co) (.slice (some adm) ms.length cm) o ms w4) := ⟨HL4.out.requs (qs' := qs) (fun j hj => by
            rw [hqs]
            unfold qsP
            rw [List.take_append_of_le_length (by have := HS.out.2.2.2; omega)])⟩
          have HQ9 : Sh (qs ms.length = q9) := ⟨by
            have hN := cm9
            unfold nxtN at hN
            simp only [Bool.and_eq_true] at hN
            rw [hqs, HML.out, HP.out, upI_len, hq9]
            unfold qsP
            rw [List.take_of_length_le (by simp), upI_app, deedsF_app, show deedsF l (upI [x]) = [(opL l (x : Int)).f0] from rfl, accs_snoc1]
            · rw [HQ.out, HP.out]
            · rw [← HP.out]; exact HG.out.acc
            · rw [← HP.out, ← HQ.out]; exact hN.2.2⟩
          have HLX0 := HLQ.out.below (below_alloc (Below.refl _ _) (.cells #[.int .i64 m, .slice A9 q9.length c9] 43))
          have HF0 : Sh (Kd.F k59 (w4.alloc (.cells #[.int .i64 m, .slice A9 q9.length c9] 43)) (fun k => (True ∧ some k ≠ (Value.slice Ao o.length co).ownBlock) ∧ some k ≠ (Value.slice (some adm) ms.length cm).ownBlock) A9 (qs ms.length).length (qs ms.length)) := ⟨by
            rw [HQ9.out]
            exact Kd.F_alloc (Kd.F_mono hF9 (fun k hk => by
              have hk : wr.heap.size ≤ k := hk
              exact ⟨⟨trivial, fun e => by have := HLO0.out k e.symm; omega⟩, fun e => by have := HLM0.out k e.symm; omega⟩)) _⟩
          have HB11 : Sh ((w4.alloc (.cells #[.int .i64 m, .slice A9 q9.length c9] 43)).heap[w4.heap.size]? = some (.cells #[.int .i64 m, .slice A9 q9.length c9] 43 (0, 0))) := ⟨blk_new _ _⟩
          have HNE : Sh (some w4.heap.size ≠ (Value.slice Ao o.length co).ownBlock ∧ some w4.heap.size ≠ (Value.slice (some adm) ms.length cm).ownBlock ∧ some (w4.alloc (.cells #[.int .i64 m, .slice A9 q9.length c9] 43)).heap.size ≠ (Value.slice Ao o.length co).ownBlock ∧ some (w4.alloc (.cells #[.int .i64 m, .slice A9 q9.length c9] 43)).heap.size ≠ (Value.slice (some adm) ms.length cm).ownBlock ∧ some ((w4.alloc (.cells #[.int .i64 m, .slice A9 q9.length c9] 43)).heap.size + 1) ≠ (Value.slice Ao o.length co).ownBlock ∧ some ((w4.alloc (.cells #[.int .i64 m, .slice A9 q9.length c9] 43)).heap.size + 1) ≠ (Value.slice (some adm) ms.length cm).ownBlock) := ⟨by
            have e : (w4.alloc (.cells #[.int .i64 m, .slice A9 q9.length c9] 43)).heap.size = w4.heap.size + 1 := by simp
            rw [e]
            refine ⟨fun h => ?_, fun h => ?_, fun h => ?_, fun h => ?_, fun h => ?_, fun h => ?_⟩
            · have := hlo _ h.symm; omega
            · have := hlm _ h.symm; omega
            · have := hlo _ h.symm; omega
            · have := hlm _ h.symm; omega
            · have := hlo _ h.symm; omega
            · have := hlm _ h.symm; omega⟩
          have HQN : Sh (q9.length = (qs ms.length).length) := ⟨by rw [HQ9.out]⟩
          have HQC : Sh ((qs ms.length).length ≤ c9) := ⟨by rw [HQ9.out]; exact hc9⟩
          have HUP : Sh (upI (P ++ [x]) = o ++ [(x : Int)]) := ⟨by rw [upI_app, HP.out]; rfl⟩
          have HGA : Sh (∀ k, Good m l (upI ((P ++ [x]).take k))) := ⟨fun k => by
            by_cases hk : k ≤ P.length
            · rw [List.take_append_of_le_length hk]; exact HS.out.2.2.1 k
            · rw [List.take_of_length_le (by simp; omega), HUP.out]; exact HGS.out⟩
          have HQS := Sh.mk hqs
          have HOL := Sh.mk hol
          have HMS := Sh.mk hms
          have HLX := Sh.mk HLX0
          clear hc9 hF9 hq9 hlo hlm hqs HLX0 cm9 HPO HL4 b
          go_upto_region 13 with (fail)
          generalize (w4.alloc (.cells #[.int .i64 m, .slice A9 q9.length c9] 43)) = wx at HLX HF0 HB11 HNE ⊢
          generalize w4.heap.size = g11 at HB11 HNE ⊢
          have HLW : ∀ W, Below wx.heap.size wx W → LR w m qs (.slice Ao o.length co) (.slice (some adm) ms.length cm) o ms W := fun W hW => HLX.out.below hW
          have HFW : ∀ W, Below wx.heap.size wx W → Kd.F k59 W (fun k => (True ∧ some k ≠ (Value.slice Ao o.length co).ownBlock) ∧ some k ≠ (Value.slice (some adm) ms.length cm).ownBlock) A9 (qs ms.length).length (qs ms.length) := fun W hW => Kd.F_below HF0.out hW
          have AR := blkS HB11.out
          go_wp2
          go_region_held3 (fun W => W.cell? ⟨g11, 0, none⟩ = some (.int .i64 m) ∧ W.cell? ⟨g11, 1, none⟩ = some (.slice A9 q9.length c9)) (first | exact blkS (by repeat (first | exact HB11.out | exact HB5.out | exact HB7.out | exact HB9.out | apply blk_alloc | apply blk_drew))) ((first | (refine Kd.R_append_rows_step ksm (Rr := ksm.K w) (w0 := w) w.heap.size (by rfl) (.tmp 53) (.tmp 55) 52 43 (.agg #[.int .i64 0, .slice none 0 0]) 32 rfl Try.underlying52 infoM rfl (by decide) (by omega) (.slice (some adm) ms.length cm) ms [⟨m, A9, q9.length, c9⟩] _ _ _ (fun _ => True) (fun _ => False) rfl rfl ((HLO.out.below (by repeat (first | exact Below.refl _ _ | apply below_alloc | apply below_drew1)))).rm ?aR (fun _ _ h => by obtain rfl := ksm_open h; exact ksm_mkM _ _ _ _) (fun _ h => h.elim) (fun _ _ => trivial) ((HLO.out.below (by repeat (first | exact Below.refl _ _ | apply below_alloc | apply below_drew1)))).bl ((HLO.out.below (by repeat (first | exact Below.refl _ _ | apply below_alloc | apply below_drew1)))).bl.size ?aL ?_; (case aR => exact rows_oneM (x := ⟨m, A9, q9.length, c9⟩) (by first | exact blk_new _ _ | exact blk_drew (blk_new _ _) | exact blk_alloc (blk_new _ _) _ | exact blk_drew (blk_alloc (blk_new _ _) _) | exact blk_alloc (blk_drew (blk_new _ _)) _ | (have h := blk_new (wx.alloc (.cells #[.int .i64 (x : Int)] 3)) (.cells #[.int .i64 m, .slice A9 q9.length c9] 43); simpa using h) | (have h := blk_drew (blk_new (wx.alloc (.cells #[.int .i64 (x : Int)] 3)) (.cells #[.int .i64 m, .slice A9 q9.length c9] 43)); simpa using h) | (have h := blk_new (wx.alloc (.cells #[.int .i64 m, .slice A9 q9.length c9] 43)) (.cells #[.int .i64 (x : Int)] 3); simpa using h) | (have h := blk_drew (blk_new (wx.alloc (.cells #[.int .i64 m, .slice A9 q9.length c9] 43)) (.cells #[.int .i64 (x : Int)] 3)); simpa using h) | exact HM5.out)); (case aL => have := HMS.out; omega); intro v9 w9 ho hb hg hat; have HLF := Sh.mk ((HLO.out.below (by repeat (first | exact Below.refl _ _ | apply below_alloc | apply below_drew1))).appM ho hb hg hat rfl HQN.out HQC.out (Kd.F_below HF5.out (by repeat (first | exact Below.refl _ _ | apply below_alloc | apply below_drew1)))); have HB9 := Sh.mk (blk_grown (by repeat (first | exact HB11.out | exact HB5.out | exact HB7.out | apply blk_alloc | apply blk_drew)) hg HNE.out.2.1); clear ho hb hg hat) | (refine Kd.R_append_rows_step (Kd.int .i64) (w0 := w) w.heap.size (by rfl) (.tmp 49) (.tmp 51) 24 3 (.int .i64 0) 8 rfl Try.underlying24 info3 rfl (by decide) (by omega) (.slice Ao o.length co) o [(x : Int)] _ _ _ (fun _ => True) (fun _ => False) rfl rfl ((HLM.out.below (by repeat (first | exact Below.refl _ _ | apply below_alloc | apply below_drew1)))).ro ?aR (fun _ _ h => h) (fun _ h => h.elim) (fun _ _ => trivial) ((HLM.out.below (by repeat (first | exact Below.refl _ _ | apply below_alloc | apply below_drew1)))).bl ((HLM.out.below (by repeat (first | exact Below.refl _ _ | apply below_alloc | apply below_drew1)))).bl.size ?aL ?_; (case aR => exact C_oneI (by first | exact blk_new _ _ | exact blk_drew (blk_new _ _) | exact blk_alloc (blk_new _ _) _ | exact blk_drew (blk_alloc (blk_new _ _) _) | exact blk_alloc (blk_drew (blk_new _ _)) _ | (have h := blk_new (wx.alloc (.cells #[.int .i64 (x : Int)] 3)) (.cells #[.int .i64 m, .slice A9 q9.length c9] 43); simpa using h) | (have h := blk_drew (blk_new (wx.alloc (.cells #[.int .i64 (x : Int)] 3)) (.cells #[.int .i64 m, .slice A9 q9.length c9] 43)); simpa using h) | (have h := blk_new (wx.alloc (.cells #[.int .i64 m, .slice A9 q9.length c9] 43)) (.cells #[.int .i64 (x : Int)] 3); simpa using h) | (have h := blk_drew (blk_new (wx.alloc (.cells #[.int .i64 m, .slice A9 q9.length c9] 43)) (.cells #[.int .i64 (x : Int)] 3)); simpa using h) | exact HX7.out)); (case aL => have := HOL.out; omega); intro v9 w9 ho hb hg hat; have HLF := Sh.mk ((HLM.out.below (by repeat (first | exact Below.refl _ _ | apply below_alloc | apply below_drew1))).appO ho hb hg hat); have HB9 := Sh.mk (blk_grown (by repeat (first | exact HB11.out | exact HB5.out | exact HB7.out | apply blk_alloc | apply blk_drew)) hg HNE.out.1); clear ho hb hg hat) | (refine Kd.R_append_rows_step (Kd.int .i64) (w0 := w) w.heap.size (by rfl) (.tmp 49) (.tmp 51) 24 3 (.int .i64 0) 8 rfl Try.underlying24 info3 rfl (by decide) (by omega) (.slice Ao o.length co) o [(x : Int)] _ _ _ (fun _ => True) (fun _ => False) rfl rfl (HLW _ (by repeat (first | exact Below.refl _ _ | apply below_alloc | apply below_drew1))).ro ?aR (fun _ _ h => h) (fun _ h => h.elim) (fun _ _ => trivial) (HLW _ (by repeat (first | exact Below.refl _ _ | apply below_alloc | apply below_drew1))).bl (HLW _ (by repeat (first | exact Below.refl _ _ | apply below_alloc | apply below_drew1))).bl.size ?aL ?_; (case aR => exact C_oneI (by first | exact blk_new _ _ | exact blk_drew (blk_new _ _) | exact blk_alloc (blk_new _ _) _ | exact blk_drew (blk_alloc (blk_new _ _) _) | exact blk_alloc (blk_drew (blk_new _ _)) _ | (have h := blk_new (wx.alloc (.cells #[.int .i64 (x : Int)] 3)) (.cells #[.int .i64 m, .slice A9 q9.length c9] 43); simpa using h) | (have h := blk_drew (blk_new (wx.alloc (.cells #[.int .i64 (x : Int)] 3)) (.cells #[.int .i64 m, .slice A9 q9.length c9] 43)); simpa using h) | (have h := blk_new (wx.alloc (.cells #[.int .i64 m, .slice A9 q9.length c9] 43)) (.cells #[.int .i64 (x : Int)] 3); simpa using h) | (have h := blk_drew (blk_new (wx.alloc (.cells #[.int .i64 m, .slice A9 q9.length c9] 43)) (.cells #[.int .i64 (x : Int)] 3)); simpa using h))); (case aL => have := HOL.out; omega); intro v5 w5 ho hb hg hat; have HLO := Sh.mk ((HLW _ (by repeat (first | exact Below.refl _ _ | apply below_alloc | apply below_drew1))).appO ho hb hg hat); have HF5 := Sh.mk (F_appO (HFW _ (by repeat (first | exact Below.refl _ _ | apply below_alloc | apply below_drew1))) hg hat); have HB5 := Sh.mk (blk_grown (by repeat (first | exact HB11.out | exact HB5.out | exact HB7.out | apply blk_alloc | apply blk_drew)) hg HNE.out.1); (first | (have HM5 : Sh (w5.heap[wx.heap.size]? = some (.cells #[.int .i64 m, .slice A9 q9.length c9] 43 (0, 0))) := ⟨blk_grown (by first | exact blk_new _ _ | exact blk_drew (blk_new _ _) | exact blk_alloc (blk_new _ _) _ | exact blk_drew (blk_alloc (blk_new _ _) _) | exact blk_alloc (blk_drew (blk_new _ _)) _ | (have h := blk_new (wx.alloc (.cells #[.int .i64 (x : Int)] 3)) (.cells #[.int .i64 m, .slice A9 q9.length c9] 43); simpa using h) | (have h := blk_drew (blk_new (wx.alloc (.cells #[.int .i64 (x : Int)] 3)) (.cells #[.int .i64 m, .slice A9 q9.length c9] 43)); simpa using h) | (have h := blk_new (wx.alloc (.cells #[.int .i64 m, .slice A9 q9.length c9] 43)) (.cells #[.int .i64 (x : Int)] 3); simpa using h) | (have h := blk_drew (blk_new (wx.alloc (.cells #[.int .i64 m, .slice A9 q9.length c9] 43)) (.cells #[.int .i64 (x : Int)] 3)); simpa using h)) hg (by first | exact HNE.out.1 | exact HNE.out.2.2.1 | exact HNE.out.2.2.2.2.1)⟩) | (have HM5 : Sh (w5.heap[wx.heap.size + 1]? = some (.cells #[.int .i64 m, .slice A9 q9.length c9] 43 (0, 0))) := ⟨blk_grown (by first | exact blk_new _ _ | exact blk_drew (blk_new _ _) | exact blk_alloc (blk_new _ _) _ | exact blk_drew (blk_alloc (blk_new _ _) _) | exact blk_alloc (blk_drew (blk_new _ _)) _ | (have h := blk_new (wx.alloc (.cells #[.int .i64 (x : Int)] 3)) (.cells #[.int .i64 m, .slice A9 q9.length c9] 43); simpa using h) | (have h := blk_drew (blk_new (wx.alloc (.cells #[.int .i64 (x : Int)] 3)) (.cells #[.int .i64 m, .slice A9 q9.length c9] 43)); simpa using h) | (have h := blk_new (wx.alloc (.cells #[.int .i64 m, .slice A9 q9.length c9] 43)) (.cells #[.int .i64 (x : Int)] 3); simpa using h) | (have h := blk_drew (blk_new (wx.alloc (.cells #[.int .i64 m, .slice A9 q9.length c9] 43)) (.cells #[.int .i64 (x : Int)] 3)); simpa using h)) hg (by first | exact HNE.out.1 | exact HNE.out.2.2.1 | exact HNE.out.2.2.2.2.1)⟩) | skip); clear ho hb hg hat) | (refine Kd.R_append_rows_step ksm (Rr := ksm.K w) (w0 := w) w.heap.size (by rfl) (.tmp 53) (.tmp 55) 52 43 (.agg #[.int .i64 0, .slice none 0 0]) 32 rfl Try.underlying52 infoM rfl (by decide) (by omega) (.slice (some adm) ms.length cm) ms [⟨m, A9, q9.length, c9⟩] _ _ _ (fun _ => True) (fun _ => False) rfl rfl (HLW _ (by repeat (first | exact Below.refl _ _ | apply below_alloc | apply below_drew1))).rm ?aR (fun _ _ h => by obtain rfl := ksm_open h; exact ksm_mkM _ _ _ _) (fun _ h => h.elim) (fun _ _ => trivial) (HLW _ (by repeat (first | exact Below.refl _ _ | apply below_alloc | apply below_drew1))).bl (HLW _ (by repeat (first | exact Below.refl _ _ | apply below_alloc | apply below_drew1))).bl.size ?aL ?_; (case aR => exact rows_oneM (x := ⟨m, A9, q9.length, c9⟩) (by first | exact blk_new _ _ | exact blk_drew (blk_new _ _) | exact blk_alloc (blk_new _ _) _ | exact blk_drew (blk_alloc (blk_new _ _) _) | exact blk_alloc (blk_drew (blk_new _ _)) _ | (have h := blk_new (wx.alloc (.cells #[.int .i64 (x : Int)] 3)) (.cells #[.int .i64 m, .slice A9 q9.length c9] 43); simpa using h) | (have h := blk_drew (blk_new (wx.alloc (.cells #[.int .i64 (x : Int)] 3)) (.cells #[.int .i64 m, .slice A9 q9.length c9] 43)); simpa using h) | (have h := blk_new (wx.alloc (.cells #[.int .i64 m, .slice A9 q9.length c9] 43)) (.cells #[.int .i64 (x : Int)] 3); simpa using h) | (have h := blk_drew (blk_new (wx.alloc (.cells #[.int .i64 m, .slice A9 q9.length c9] 43)) (.cells #[.int .i64 (x : Int)] 3)); simpa using h))); (case aL => have := HMS.out; omega); intro v7 w7 ho hb hg hat; have HLM := Sh.mk ((HLW _ (by repeat (first | exact Below.refl _ _ | apply below_alloc | apply below_drew1))).appM ho hb hg hat rfl HQN.out HQC.out (HFW _ (by repeat (first | exact Below.refl _ _ | apply below_alloc | apply below_drew1)))); have HB7 := Sh.mk (blk_grown (by repeat (first | exact HB11.out | exact HB5.out | exact HB7.out | apply blk_alloc | apply blk_drew)) hg HNE.out.2.1); (first | (have HX7 : Sh (w7.heap[wx.heap.size]? = some (.cells #[.int .i64 (x : Int)] 3 (0, 0))) := ⟨blk_grown (by first | exact blk_new _ _ | exact blk_drew (blk_new _ _) | exact blk_alloc (blk_new _ _) _ | exact blk_drew (blk_alloc (blk_new _ _) _) | exact blk_alloc (blk_drew (blk_new _ _)) _ | (have h := blk_new (wx.alloc (.cells #[.int .i64 (x : Int)] 3)) (.cells #[.int .i64 m, .slice A9 q9.length c9] 43); simpa using h) | (have h := blk_drew (blk_new (wx.alloc (.cells #[.int .i64 (x : Int)] 3)) (.cells #[.int .i64 m, .slice A9 q9.length c9] 43)); simpa using h) | (have h := blk_new (wx.alloc (.cells #[.int .i64 m, .slice A9 q9.length c9] 43)) (.cells #[.int .i64 (x : Int)] 3); simpa using h) | (have h := blk_drew (blk_new (wx.alloc (.cells #[.int .i64 m, .slice A9 q9.length c9] 43)) (.cells #[.int .i64 (x : Int)] 3)); simpa using h)) hg (by first | exact HNE.out.2.1 | exact HNE.out.2.2.2.1 | exact HNE.out.2.2.2.2.2)⟩) | (have HX7 : Sh (w7.heap[wx.heap.size + 1]? = some (.cells #[.int .i64 (x : Int)] 3 (0, 0))) := ⟨blk_grown (by first | exact blk_new _ _ | exact blk_drew (blk_new _ _) | exact blk_alloc (blk_new _ _) _ | exact blk_drew (blk_alloc (blk_new _ _) _) | exact blk_alloc (blk_drew (blk_new _ _)) _ | (have h := blk_new (wx.alloc (.cells #[.int .i64 (x : Int)] 3)) (.cells #[.int .i64 m, .slice A9 q9.length c9] 43); simpa using h) | (have h := blk_drew (blk_new (wx.alloc (.cells #[.int .i64 (x : Int)] 3)) (.cells #[.int .i64 m, .slice A9 q9.length c9] 43)); simpa using h) | (have h := blk_new (wx.alloc (.cells #[.int .i64 m, .slice A9 q9.length c9] 43)) (.cells #[.int .i64 (x : Int)] 3); simpa using h) | (have h := blk_drew (blk_new (wx.alloc (.cells #[.int .i64 m, .slice A9 q9.length c9] 43)) (.cells #[.int .i64 (x : Int)] 3)); simpa using h)) hg (by first | exact HNE.out.2.1 | exact HNE.out.2.2.2.1 | exact HNE.out.2.2.2.2.2)⟩) | skip); clear ho hb hg hat) | fail))
          all_goals go_wp2
          all_goals go_roundg (mu l.length (P ++ [x]) 0)
          all_goals first
            | (rw [HS.out.1]; exact mu_push HSI.out.len HSI.out.lt hx1)
            | exact ⟨P ++ [x], 0, ms ++ [⟨m, A9, q9.length, c9⟩], rfl, ⟨rfl, HSI.out, HGA.out, by rw [List.length_append, List.length_append, HS.out.2.2.2]; rfl⟩, ⟨by rw [← HQS.out, HUP.out]; exact HLF.out⟩⟩
      · obtain rfl : x = l.length := by omega
        have HNO2 : Sh (∀ y, fi ≤ y → ∀ S, ¬ FN m l (P ++ y :: S)) := ⟨fun y h1 S => by
          by_cases e : y < l.length
          · exact no_nxt (by rw [← HP.out, ← HQ.out]; exact HNO.out y h1 e) S
          · exact no_out (by omega) S⟩
        have d1 : decide (l.length < l.length) = false := decide_eq_false (by omega)
        have d2 : decide ((l.length : Int) < (l.length : Int)) = false := decide_eq_false (by omega)
        rcases Nat.eq_zero_or_pos o.length with h0 | h0
        · have HP0 : Sh (P = []) := ⟨by
            have := HP.out ▸ h0
            rw [upI_len] at this
            exact List.eq_nil_of_length_eq_zero this⟩
          have e0 : ((o.length : Int) == 0) = true := by rw [h0]; rfl
          have HI := Sh.mk (by have h1 := HS.out.2.1; have h2 := HNF.out; have h3 := HNO2.out; rw [HP0.out] at h1 h2 h3; exact h1.none h2 h3)
          clear h0
          go_wp2
          refine bodyPost_ret (v := .tuple #[.slice none 0 0, .bool false]) (by simp [results, Try.results13, go_sem]) rfl ?_
          exact ⟨none, by unfold ordP; rw [if_pos CB.out]; exact HI.out, .slice none 0 0, rfl, Kd.R_nil _ _ _ _ _, HL.out.bl⟩
        · have e0 : ((o.length : Int) == 0) = false := beq_eq_false_iff_ne.2 (by omega)
          obtain ⟨k, hk⟩ : ∃ k : Nat, o.length = k + 1 := ⟨o.length - 1, by omega⟩
          obtain ⟨P', x, hPx⟩ : ∃ P' x, P = P' ++ [x] := by
            have : P ≠ [] := fun e => by rw [HP.out, upI_len, e] at h0; exact absurd h0 (by simp)
            exact ⟨P.dropLast, P.getLast this, (List.dropLast_concat_getLast this).symm⟩
          have HPX := Sh.mk hPx
          have hoP : o = upI P' ++ [(x : Int)] := by rw [HP.out, hPx, upI_app]; rfl
          have hkl : k = P'.length := by
            rw [hoP, List.length_append, upI_len, List.length_singleton] at hk
            omega
          obtain ⟨adx, rfl, hx0⟩ := Kd.at_int HRO.out.2.2 ((o.length : Int) - 1) (by omega) (by omega)
          have hrx : rd o ((o.length : Int) - 1) = (x : Int) := by
            rw [hoP]
            simp [rd, List.getD_eq_getElem?_getD]
          rw [hrx] at hx0
          obtain ⟨q7, hq⟩ : ∃ q, q = (o.length : Int) - 1 := ⟨_, rfl⟩
          have q1 : IntKind.i64.wrap ((o.length : Int) - 1) = q7 := by rw [hq]; exact IntWalk.i64_in _ (by omega)
          have q2 : 0 ≤ q7 := by omega
          have q3 : q7 < (o.length : Int) := by omega
          have q4 : q7 ≤ (o.length : Int) := by omega
          rw [← hq] at hx0
          have hcut : ∀ W : World, (Instr.slice 24 (.slice (some adx) o.length co) none (some (.int .i64 q7)) none).run Try.prog W = .ok (.slice (some adx) k co) W := by
            obtain ⟨i3, hi3, _, hi4, _⟩ := infoO_parts info3
            have h1 := cut_to (P := Try.prog) 24 3 .i64 Try.underlying24 hi3 (some adx) o.length co q7 (by omega) (by omega) HRO.out.2.1
            rw [show k = q7.toNat by omega]
            exact h1
          have hcut2 : ∀ W : World, (Instr.slice 52 (.slice Am ms.length cm) none (some (.int .i64 (o.length : Int))) none).run Try.prog W = .ok (.slice Am o.length cm) W := by
            obtain ⟨i3, hi3, _, hi4, _⟩ := infoO_parts infoM
            have h1 := cut_to (P := Try.prog) 52 43 .i64 Try.underlying52 hi3 Am ms.length cm (o.length : Int) (by omega) (by have := HML.out; omega) HRM.out.2.1
            simpa using h1
          have hxl := HS.out.2.1.lt x (by rw [hPx]; simp)
          have q5 : IntKind.i64.wrap ((x : Int) + 1) = ((x + 1 : Nat) : Int) := by rw [IntWalk.i64_in _ (by omega)]; omega
          have HSI := Sh.mk (by have h1 := HS.out.2.1; have h2 := HNF.out; have h3 := HNO2.out; rw [hPx] at h1 h2 h3; exact h1.pop h2 h3)
          have HMU : Sh (mu l.length P' (x + 1) < mu l.length (P' ++ [x]) fi) := ⟨by
            have h1 := HS.out.2.1
            rw [hPx] at h1
            exact mu_pop h1.len h1.lt h1.fl⟩
          have HGA : Sh (∀ j, Good m l (upI (P'.take j))) := ⟨fun j => by
            have := HS.out.2.2.1 (min j P'.length)
            rw [hPx, List.take_append_of_le_length (Nat.min_le_right _ _)] at this
            rwa [← List.take_eq_take_min] at this⟩
          have HLC : Sh (LR w m (qsP m l P') (.slice (some adx) k co) (.slice Am o.length cm) (upI P') (ms.take o.length) wr) := ⟨by
            have h1 := HL.out.cut (i := k) (j := o.length) rfl rfl (by omega) (by have := HML.out; omega)
            have e1 : o.take k = upI P' := by rw [hoP, hkl, ← upI_len P', List.take_left]
            rw [e1] at h1
            exact h1.requs (qs' := qsP m l P') (fun j hj => by
              rw [hPx]
              unfold qsP
              rw [List.take_append_of_le_length (by rw [List.length_take] at hj; omega)])⟩
          have HLN : Sh ((ms.take o.length).length = P'.length + 1) := ⟨by rw [List.length_take]; have := HML.out; omega⟩
          have o1 : (0 : Int) ≤ (o.length : Int) := by omega
          have o2 : (o.length : Int) ≤ (ms.length : Int) := by have := HML.out; omega
          clear h0 hPx hk hoP hkl hrx hq
          go_wp2_with fail
          go_quiet (fail)
          go_wp2
          go_roundg (mu l.length P' (x + 1))
          case measure => rw [HS.out.1, HPX.out]; exact HMU.out
          case rel => exact ⟨P', x + 1, ms.take o.length, by first | rfl | go_num, ⟨rfl, HSI.out, HGA.out, HLN.out⟩, ⟨HLC.out.below (by first | exact Below.refl _ _ | exact pw_below_drewN (Below.refl _ _) _)⟩⟩
end Go.Proofs.Ytpddppipjlagfaa
