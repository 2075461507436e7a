/- Unlike places (places), and a chain of them (pushed): contracts. No statement is proved here. -/
import Derived.Test.YtncmebefgklpjaaLaw9
namespace Go.Proofs.Ytncmebefgklpjaa
set_option linter.unusedVariables false
set_option linter.unusedSimpArgs false
open Go.RowKit Go.Proofs.YtncmebefgklpjaaW.PrintWords Go.Proofs.YtncmebefgklpjaaW.PrintLast Go.Proofs.YtncmebefgklpjaaW.PrintMore

/-- Which of 128 places a list has. -/
def hasA (l : List Int) : Array Value := ((List.range 128).map (fun (i : Nat) => Value.bool (decide ((i : Int) ∈ l)))).toArray
theorem hasA_at (l : List Int) (i : Nat) (h : i < 128) : (hasA l)[i]? = some (.bool (decide ((i : Int) ∈ l))) := by
  simp [hasA, h]
theorem hasA_nil : hasA [] = Array.replicate 128 (.bool false) := by
  apply Array.ext
  · simp [hasA]
  · intro i h1 h2
    simp [hasA]
theorem hasA_snoc (l : List Int) (x : Nat) (hx : x < 128) : (hasA l).setIfInBounds x (.bool true) = hasA (l ++ [(x : Int)]) := by
  apply Array.ext
  · simp [hasA]
  · intro i h1 h2
    simp [hasA, Array.getElem_setIfInBounds]
    by_cases h : x = i
    · subst h; simp
    · have : ¬ ((i : Int) = x) := by omega
      simp [h, this]

/-- 128 times false, as one value. -/
def zs128 : Array Value := Array.replicate 128 (.bool false)
theorem zs128_ne : ¬ zs128 = #[] := by intro h; have := congrArg Array.size h; simp [zs128] at this
theorem zv128 (w : World) : (zeroValue 78).run Try.prog w = .ok (.agg zs128) w := by
  have h : (Try.prog.info? 78).map (fun i => i.zero) = some (some (.agg (Array.replicate 128 (.bool false)))) := by kernel_rfl
  obtain ⟨i, hi, hz⟩ := Option.map_eq_some_iff.1 h
  simp [zeroValue, typeInfo, hi, hz, zs128]

/-- What places hands back. -/
def IsPlaces (w : World) (e : Ending) (w' : World) : Prop :=
  ∃ v l, e = .returned v ∧ Kd.R (Kd.int .i64) 3 w' w.heap.size (fun _ => True) v l ∧ l.Nodup ∧ (∀ x ∈ l, 0 ≤ x ∧ x < 128) ∧ Below w.heap.size w w'
theorem rem128 (x : Int) (h0 : 0 ≤ x) : 0 ≤ x % 128 ∧ x % 128 < 128 := by omega
theorem nodup_bound : ∀ (n : Nat) (l : List Int), l.Nodup → (∀ x ∈ l, 0 ≤ x ∧ x < n) → l.length ≤ n
  | 0, l, _, hb => by
    cases l with
    | nil => simp
    | cons x t => have := hb x (by simp); omega
  | n + 1, l, h, hb => by
    have h1 := nodup_bound n (l.erase (n : Int)) (h.erase _) (fun x hx => by
      have h2 := (h.mem_erase_iff).1 hx
      have := hb x h2.2
      have := h2.1
      omega)
    have h3 := List.length_erase (a := (n : Int)) (l := l)
    split at h3 <;> omega
set_option maxHeartbeats 4000000 in
theorem places_any (A : Option Addr) (c : Nat) (ns : List Int) (w : World) (hr : Kd.C (Kd.int .u8) w A ns.length ns) (hc : ns.length ≤ c) (hu : ∀ x ∈ ns, 0 ≤ x ∧ x ≤ 255) (hl : ns.length ≤ 140737488351232) :
    Calls Try.prog 33 #[.slice A ns.length c] w (IsPlaces w) := by
  have HR := Sh.mk hr
  have HU := Sh.mk hu
  clear hr hu
  go_enter Try.func33, Try.ntmps33
  have hz := zv128
  have hzn := zs128_ne
  go_wp2
  have HG0 : Sh (Blk (w.alloc (.cells zs128 78)) w.heap.size 78 (hasA [])) := ⟨by rw [hasA_nil]; exact Blk.new _ _ _⟩
  clear hz hzn
  go_loopw [3, 5] (fun lv i wr => ∃ (k : Nat) (l : List Int), k ≤ ns.length ∧ i = .int .i64 k ∧ Sh (Blk wr w.heap.size 78 (hasA l)) ∧ Sh (Kd.R (Kd.int .i64) 3 wr w.heap.size (fun k => k ≠ w.heap.size) lv l) ∧ Sh (l.Nodup ∧ ∀ x ∈ l, 0 ≤ x ∧ x < ((128 : Nat) : Int)) ∧ Sh (Below w.heap.size w wr)) (fun lv i _ => ns.length - (intOf i).toNat)
  case atStart => exact ⟨0, [], Nat.zero_le _, rfl, HG0, ⟨Kd.R_nil _ _ _ _ _⟩, ⟨by simp⟩, ⟨(Below.refl _ _).alloc (Nat.le_refl _) _⟩⟩
  case round =>
    clear HG0
    obtain ⟨k, l, hk, rfl, HG, HO, HD, HB⟩ := hrel
    obtain ⟨Ao, co, eo⟩ := Kd.R_slice HO.out
    subst eo
    by_cases hlt : k < ns.length
    · obtain ⟨ad, rfl, hadl, hcell⟩ := C_cell HR.out k hlt
      have hadb : (ad.add k).block = ad.block := by unfold Addr.add; split <;> rfl
      have hcell' : wr.cell? (ad.add k) = some (.int .u8 (rd0 ns k)) := (HB.out.cell (by rw [hadb]; exact hadl)).trans hcell
      obtain ⟨x, hx⟩ : ∃ x, x = rd0 ns k := ⟨_, rfl⟩
      have hx2 : 0 ≤ rd0 ns k ∧ rd0 ns k ≤ 255 := by rw [rd0_get ns k hlt]; exact HU.out _ (List.getElem_mem hlt)
      rw [← hx] at hcell' hx2
      obtain ⟨hx0, hx1⟩ := hx2
      obtain ⟨hy0, hy1⟩ := rem128 x hx0
      obtain ⟨z, hz⟩ : ∃ z, z = decide (x % 128 ∈ l) := ⟨_, rfl⟩
      have hyc : wr.cell? ⟨w.heap.size, (x % 128).toNat, none⟩ = some (.bool z) := by
        rw [HG.out.cell, hasA_at l _ (by omega), Int.toNat_of_nonneg hy0, hz]
      have hfz := HG.out.frozen (x % 128).toNat
      have hgl := HG.out.lt
      clear hadb hadl hcell hx
      by_cases cz : z = true
      · subst cz
        clear hz
        go_wp2
        go_roundw
        case rel => exact ⟨k + 1, l, by omega, by go_num, HG, HO, HD, HB⟩
        case measure => simp [intOf]; omega
      · have cz' : z = false := by simpa using cz
        subst cz'
        have HZ : Sh (¬ x % 128 ∈ l) := ⟨by simpa using hz.symm⟩
        clear hz cz
        have HG1 : Sh (Blk (wr.setCell ⟨w.heap.size, (x % 128).toNat, none⟩ (.bool true)) w.heap.size 78 (hasA (l ++ [x % 128]))) := ⟨by
          have := HG.out.set_ (x % 128).toNat (.bool true)
          rw [hasA_snoc l _ (by omega), Int.toNat_of_nonneg hy0] at this
          exact this⟩
        have HB1 : Sh (Below w.heap.size w (wr.setCell ⟨w.heap.size, (x % 128).toNat, none⟩ (.bool true))) := ⟨HB.out.setCell (Nat.le_refl _) _⟩
        have HO1 : Sh (Kd.R (Kd.int .i64) 3 (wr.setCell ⟨w.heap.size, (x % 128).toNat, none⟩ (.bool true)) w.heap.size (fun k => k ≠ w.heap.size) (.slice Ao l.length co) l) := ⟨Kd.R_kept HO.out (S := fun k => k = w.heap.size) (Kept.setCell (S := fun k => k = w.heap.size) (Kept.refl _ _) (.inl rfl) _) (fun k hk => hk)⟩
        have HD1 : Sh ((l ++ [x % 128]).Nodup ∧ ∀ y ∈ l ++ [x % 128], 0 ≤ y ∧ y < ((128 : Nat) : Int)) := ⟨by
          refine ⟨?_, ?_⟩
          · rw [List.nodup_append]
            refine ⟨HD.out.1, by simp, ?_⟩
            intro a ha b hb e
            simp at hb
            rw [e, hb] at ha
            exact HZ.out ha
          · intro y hy
            rcases List.mem_append.1 hy with h | h
            · exact HD.out.2 y h
            · simp at h; subst h; omega⟩
        have hll : l.length ≤ 128 := nodup_bound 128 l HD.out.1 HD.out.2
        have LM : Sh (l.length < 17592186044416) := ⟨by omega⟩
        have HS1 : Sh (w.heap.size < (wr.setCell ⟨w.heap.size, (x % 128).toNat, none⟩ (.bool true)).heap.size) := ⟨HG1.out.lt⟩
        have HSZ : Sh ((wr.setCell ⟨w.heap.size, (x % 128).toNat, none⟩ (.bool true)).heap.size = wr.heap.size) := ⟨by simp [World.setCell]⟩
        go_wp2_with ((refine gate_builtin (b := .append) (xs := #[.tmp 25, .tmp 27]) rfl ?_; (try (refine gate_guard (by rfl) ?_; dsimp only)); at_builtin; refine Kd.R_append (Kd.int .i64) (w0 := w) w.heap.size rfl (.tmp 25) (.tmp 27) 59 3 (.int .i64 0) 8 rfl Try.underlying59 info_i64 rfl (by decide) (by omega) (.slice Ao l.length co) l (x % 128) [.int .i64 (x % 128)] (fun k => k ≠ w.heap.size) (fun _ => False) rfl ?aE ?aP (fun _ hk => hk.elim) ?aF ?aO ?aB ?aS ?aL ?_; (case aE => exact congrArg (fun z => Value.slice (some ⟨z, 0, none⟩) 1 1) HSZ.out.symm); (case aP => exact rfl); (case aB => exact HB1.out); (case aF => exact (fun k hk => by have := HS1.out; omega)); (case aO => exact HO1.out); (case aS => exact below_size HB1.out); (case aL => have := LM.out; omega); intro v44 w14 ho hb hg hat; have HO' := Sh.mk ho; have HB' := Sh.mk hb; have HX' : Sh (Blk w14 w.heap.size 78 (hasA (l ++ [x % 128]))) := ⟨(hg.block _ HG1.out.lt (fun e => HO1.out.1 _ e.symm rfl)).trans HG1.out⟩; clear ho hb hg hat))
        go_roundw
        case rel => exact ⟨k + 1, l ++ [x % 128], by omega, by go_num, HX', HO', HD1, HB'⟩
        case measure => simp [intOf]; omega
    · obtain rfl : k = ns.length := by omega
      go_wp2
      go_ret
      exact ⟨_, l, rfl, Kd.R_mono HO.out (fun _ _ => trivial), HD.out.1, HD.out.2, HB.out⟩

/-- The head of a chain of the first k places. -/
def headAt (l : List Int) (k : Nat) : Int := if k = 0 then 0 else rd0 l (k - 1) + 1
/-- The words behind k pushes. -/
def pushM (m l : List Int) : Nat → List Int
  | 0 => m
  | k + 1 => (pushM m l k).set (rd0 l k).toNat (headAt l k)
theorem pushM_len (m l : List Int) (k : Nat) : (pushM m l k).length = m.length := by
  induction k with
  | zero => rfl
  | succ k ih => simp [pushM, ih]
theorem headAt_in (l : List Int) (n : Nat) (hb : ∀ x ∈ l, 0 ≤ x ∧ x < (n : Int)) (k : Nat) (hk : k ≤ l.length) : 0 ≤ headAt l k ∧ headAt l k ≤ n := by
  unfold headAt
  split
  · omega
  · have : 0 ≤ rd0 l (k - 1) ∧ rd0 l (k - 1) < n := by rw [rd0_get l _ (by omega)]; exact hb _ (List.getElem_mem _)
    omega
set_option maxHeartbeats 2000000 in
theorem pushed_any (ga gb : Nat) (m : List Int) (A : Option Addr) (c : Nat) (l : List Int) (w : World) (ha : Ar w ga gb m) (hr : ∀ W, Kp [gb] w W → Kd.C (Kd.int .i64) W A l.length l) (hl : l.length ≤ 16384) (hb : ∀ x ∈ l, 0 ≤ x ∧ x < (m.length : Int)) :
    Calls Try.prog 34 #[.pointer (some ⟨ga, 0, none⟩), .slice A l.length c] w fun e w' => e = .returned (.tuple #[.int .i64 (headAt l l.length), .bool true]) ∧ Ar w' ga gb (pushM m l l.length) ∧ Kp [gb] w w' := by
  have hs := ha.small
  have HA := Sh.mk ha
  have HR := Sh.mk hr
  have HB := Sh.mk hb
  clear ha hr hb
  go_enter Try.func34, Try.ntmps34
  go_wp2
  go_loopw [6, 7] (fun hd i wr => ∃ (k : Nat) (h : Int), k ≤ l.length ∧ i = .int .i64 k ∧ hd = .int .i64 h ∧ Sh (h = headAt l k) ∧ Sh (Ar wr ga gb (pushM m l k)) ∧ Sh (Kp [gb] w wr)) (fun hd i _ => l.length - (intOf i).toNat)
  case atStart => exact ⟨0, 0, Nat.zero_le _, rfl, rfl, ⟨by simp [headAt]⟩, HA, ⟨Kp.refl _ _⟩⟩
  case round =>
    obtain ⟨k, h, hk, rfl, rfl, HH, HAk, HK⟩ := hrel
    by_cases hlt : k < l.length
    · obtain ⟨ad, rfl, hadl, hcell⟩ := C_cell (HR.out wr HK.out) k hlt
      obtain ⟨x, hx⟩ : ∃ x, x = rd0 l k := ⟨_, rfl⟩
      have hx2 : 0 ≤ rd0 l k ∧ rd0 l k < m.length := by rw [rd0_get l k hlt]; exact HB.out _ (List.getElem_mem hlt)
      have hh := headAt_in l m.length HB.out k (by omega)
      have e1 : headAt l (k + 1) = rd0 l k + 1 := by simp [headAt]
      rw [← hx] at hcell hx2 e1
      rw [← HH.out] at hh
      have hps : pushS (pushM m l k) h x = (pushM m l (k + 1), x + 1, 0) := by
        unfold pushS
        rw [pushM_len, if_neg (by omega), if_neg (by omega)]
        simp only [pushM]
        rw [← hx, ← HH.out]
      have HP := Sh.mk hps
      have HE := Sh.mk e1
      have HRr := HR.out
      obtain ⟨hx0, hx1⟩ := hx2
      clear hps hx hh e1
      go_wp2_with fail
      (with_reducible refine (push_any ga gb _ h x _ HAk.out).mono ?_); rintro e w2 ⟨rfl, g1, g2⟩
      rw [HP.out] at g1
      rw [HP.out]
      have HA2 := Sh.mk g1
      have HK2 : Sh (Kp [gb] w w2) := ⟨HK.out.trans g2⟩
      have hcell2 : w2.cell? (ad.add k) = some (.int .i64 x) := by
        obtain ⟨ad2, e2, _, hc2⟩ := C_cell (HRr w2 HK2.out) k hlt
        obtain ⟨ad3, e3, _, hc3⟩ := C_cell (HRr wr HK.out) k hlt
        cases e2; cases e3
        rw [hcell] at hc3
        rw [hc2, ← hc3]
      clear g1 g2 HRr
      go_wp2
      go_roundw
      case rel => exact ⟨k + 1, x + 1, by omega, by go_num, rfl, ⟨HE.out.symm⟩, HA2, HK2⟩
      case measure => simp [intOf]; omega
    · obtain rfl : k = l.length := by omega
      go_wp2
      go_ret2
      exact ⟨by rw [HH.out]; rfl, HAk.out, HK.out⟩
end Go.Proofs.Ytncmebefgklpjaa
