/- One call of an arena and of a list of words, by numbers ('do'): the answers are alike, and so are the words behind it. A contract; no statement is proved here. -/
import Derived.Test.YtncmebefgklpjaaLaw3
namespace Go.Proofs.Ytncmebefgklpjaa
set_option linter.unusedVariables false
open Go.RowKit Go.Proofs.YtncmebefgklpjaaW.PrintWords Go.Proofs.YtncmebefgklpjaaW.PrintLast Go.Proofs.YtncmebefgklpjaaW.PrintMore

set_option maxHeartbeats 400000 in
theorem there_in (A : Option Addr) (L c : Nat) (at_ n : Int) (w : World) (hL : L ≤ 16384) (ht : There L at_ n) :
    Calls Try.prog 39 #[.slice A L c, .int .i64 at_, .int .i64 n] w fun e w' => e = .returned (.bool true) ∧ w = w' := by
  obtain ⟨h0, h1, h2, h3⟩ := ht
  go_enter Try.func39, Try.ntmps39
  go_wp2
  go_ret
  exact ⟨rfl, rfl⟩
set_option maxHeartbeats 400000 in
theorem there_out (A : Option Addr) (L c : Nat) (at_ n : Int) (w : World) (hL : L ≤ 16384) (ht : ¬ There L at_ n) :
    Calls Try.prog 39 #[.slice A L c, .int .i64 at_, .int .i64 n] w fun e w' => e = .returned (.bool false) ∧ w = w' := by
  unfold There at ht
  by_cases h1 : n < 0
  · clear ht
    go_enter Try.func39, Try.ntmps39
    go_wp2
    go_ret
    exact ⟨rfl, rfl⟩
  · have h1' : 0 ≤ n := by omega
    by_cases h0 : at_ < 0
    · clear ht h1
      go_enter Try.func39, Try.ntmps39
      go_wp2
      go_ret
      exact ⟨rfl, rfl⟩
    · have h0' : 0 ≤ at_ := by omega
      by_cases h2 : (L : Int) < at_
      · clear ht h1 h0
        go_enter Try.func39, Try.ntmps39
        go_wp2
        go_ret
        exact ⟨rfl, rfl⟩
      · have h2' : at_ ≤ (L : Int) := by omega
        have h3 : (L : Int) - at_ < n := by omega
        have h4 : decide (n ≤ (L : Int) - at_) = false := by simp; omega
        clear ht h1 h0 h2
        go_enter Try.func39, Try.ntmps39
        go_wp2
        go_ret
        exact ⟨rfl, rfl⟩

/-- An arena and a list (in block gm) of the same words. -/
structure Twin (w : World) (ga gb gm : Nat) (m : List Int) : Prop where
  ar : Ar w ga gb m
  ls : Blk w gm 28 (U64s m)
  ne : gm ≠ gb
theorem Twin.na {w : World} {ga gb gm : Nat} {m : List Int} (h : Twin w ga gb gm m) : ga ≠ gm := h.ar.st.ne_ h.ls (by decide)
theorem Twin.kp {w w' : World} {ga gb gm : Nat} {m : List Int} {S : List Nat} (h : Twin w ga gb gm m) (k : Kp S w w') (ha : ga ∉ S) (hb : gb ∉ S) (hm : gm ∉ S) : Twin w' ga gb gm m := ⟨h.ar.kp k ha hb, h.ls.kp k hm, h.ne⟩
theorem Twin.rd {w : World} {ga gb gm : Nat} {m : List Int} (h : Twin w ga gb gm m) : Kd.C (Kd.int .u64) w (some ⟨gm, 0, none⟩) m.length m := C_whole h.ls (by have := h.ar.small; omega)
theorem Twin.cell {w : World} {ga gb gm : Nat} {m : List Int} (h : Twin w ga gb gm m) (i : Nat) (hi : i < m.length) : w.cell? ⟨gm, i, none⟩ = some (.int .u64 (rd0 m i)) := by rw [h.ls.cell i]; exact U64s_at m i hi
/-- What do leaves. -/
def DoPost (ga gb gm : Nat) (m : List Int) (w : World) (e : Ending) (w' : World) : Prop :=
  e = .returned (.bool true) ∧ ∃ m', Twin w' ga gb gm m' ∧ m'.length = m.length ∧ Kp [gb, gm] w w'

/-- do's arguments. -/
def doArgs (ga gm : Nat) (L : Nat) (kind at_ n to_ v : Int) : Array Value := #[.pointer (some ⟨ga, 0, none⟩), .slice (some ⟨gm, 0, none⟩) L L, .int .i64 kind, .int .i64 at_, .int .i64 n, .int .i64 to_, .int .u64 v]

set_option maxRecDepth 100000 in
set_option maxHeartbeats 2000000 in
theorem do0 (ga gb gm : Nat) (m : List Int) (at_ n to_ v : Int) (w : World) (h : Twin w ga gb gm m) :
    Calls Try.prog 19 (doArgs ga gm m.length 0 at_ n to_ v) w (DoPost ga gb gm m w) := by
  have hs := h.ar.small
  have HT := Sh.mk h
  unfold doArgs
  by_cases hin : 0 ≤ at_ ∧ at_ < m.length
  · obtain ⟨h1, h2⟩ := hin
    have hc := h.cell at_.toNat (by omega)
    have HI : Sh (There m.length at_ 1) := ⟨⟨by omega, by omega, by omega, by omega⟩⟩
    clear h
    go_enter Try.func19, Try.ntmps19
    go_wp2_with fail
    (with_reducible refine (load_in ga gb m _ _ HT.out.ar h1 h2).mono ?_); rintro e w' ⟨rfl, rfl⟩
    go_wp2_with fail
    (with_reducible refine (there_in _ _ _ _ _ _ hs HI.out).mono ?_); rintro e w' ⟨rfl, rfl⟩
    go_wp2
    go_ret
    exact ⟨rfl, m, HT.out, rfl, Kp.refl _ _⟩
  · have HO := Sh.mk hin
    have HI : Sh (¬ There m.length at_ 1) := ⟨fun hh => hin (by unfold There at hh; omega)⟩
    clear h hin
    go_enter Try.func19, Try.ntmps19
    go_wp2_with fail
    (with_reducible refine (load_out ga gb m _ _ HT.out.ar HO.out).mono ?_); rintro e w' ⟨rfl, rfl⟩
    go_wp2_with fail
    (with_reducible refine (there_out _ _ _ _ _ _ hs HI.out).mono ?_); rintro e w' ⟨rfl, rfl⟩
    go_wp2
    go_ret
    exact ⟨rfl, m, HT.out, rfl, Kp.refl _ _⟩

set_option maxRecDepth 100000 in
set_option maxHeartbeats 2000000 in
theorem do1 (ga gb gm : Nat) (m : List Int) (at_ n to_ v : Int) (w : World) (h : Twin w ga gb gm m) :
    Calls Try.prog 19 (doArgs ga gm m.length 1 at_ n to_ v) w (DoPost ga gb gm m w) := by
  have hs := h.ar.small
  have HT := Sh.mk h
  unfold doArgs
  by_cases hin : 0 ≤ at_ ∧ at_ < m.length
  · obtain ⟨h1, h2⟩ := hin
    have HI : Sh (There m.length at_ 1) := ⟨⟨by omega, by omega, by omega, by omega⟩⟩
    clear h
    go_enter Try.func19, Try.ntmps19
    go_wp2_with fail
    (with_reducible refine (store_in ga gb m _ _ _ HT.out.ar h1 h2).mono ?_); rintro e w1 ⟨rfl, h3, h4⟩
    have hls : Blk w1 gm 28 (U64s m) := HT.out.ls.kp h4 (by have := HT.out.ne; simpa using this)
    have hc : w1.cell? ⟨gm, at_.toNat, none⟩ = some (.int .u64 (rd0 m at_.toNat)) := by rw [hls.cell]; exact U64s_at m _ (by omega)
    have hfz := hls.frozen at_.toNat
    have HL := Sh.mk hls
    have H3 := Sh.mk h3
    have H4 := Sh.mk h4
    clear hls h3 h4
    go_wp2_with fail
    (with_reducible refine (there_in _ _ _ _ _ _ hs HI.out).mono ?_); rintro e w' ⟨rfl, rfl⟩
    go_wp2
    go_ret
    refine ⟨rfl, m.set at_.toNat v, ⟨?_, ?_, HT.out.ne⟩, by simp, ?_⟩
    · exact H3.out.kp ((Kp.refl [gm] _).set_ (by simp) _) (by have := HT.out.na; simpa using this) (by have := HT.out.ne; simpa using this.symm)
    · rw [← U64s_set]; exact HL.out.set_ _ _
    · exact (H4.out.mono (by simp)).set_ (by simp) _
  · have HO := Sh.mk hin
    have HI : Sh (¬ There m.length at_ 1) := ⟨fun hh => hin (by unfold There at hh; omega)⟩
    clear h hin
    go_enter Try.func19, Try.ntmps19
    go_wp2_with fail
    (with_reducible refine (store_out ga gb m _ _ _ HT.out.ar HO.out).mono ?_); rintro e w' ⟨rfl, rfl⟩
    go_wp2_with fail
    (with_reducible refine (there_out _ _ _ _ _ _ hs HI.out).mono ?_); rintro e w' ⟨rfl, rfl⟩
    go_wp2
    go_ret
    exact ⟨rfl, m, HT.out, rfl, Kp.refl _ _⟩

set_option maxRecDepth 100000 in
set_option maxHeartbeats 4000000 in
theorem do3 (ga gb gm : Nat) (m : List Int) (at_ n to_ v : Int) (w : World) (h : Twin w ga gb gm m) :
    Calls Try.prog 19 (doArgs ga gm m.length 3 at_ n to_ v) w (DoPost ga gb gm m w) := by
  have hs := h.ar.small
  have HT := Sh.mk h
  unfold doArgs
  by_cases hin : There m.length at_ n
  · have HI := Sh.mk hin
    obtain ⟨h1, h2, h3, h4⟩ := hin
    clear h
    go_enter Try.func19, Try.ntmps19
    go_wp2_with fail
    (with_reducible refine (fill_in ga gb m _ _ _ _ HT.out.ar HI.out).mono ?_); rintro e w1 ⟨rfl, h5, h6⟩
    have HL : Sh (Blk w1 gm 28 (U64s (fillM m at_.toNat v 0))) := ⟨HT.out.ls.kp h6 (by have := HT.out.ne; simpa using this)⟩
    have H5 := Sh.mk h5
    have H6 : Sh (Kp [gb, gm] w w1) := ⟨h6.mono (by simp)⟩
    clear h5 h6
    go_wp2_with fail
    (with_reducible refine (there_in _ _ _ _ _ _ hs HI.out).mono ?_); rintro e w' ⟨rfl, rfl⟩
    go_wp2
    go_loopw [20] (fun i wr => ∃ k : Nat, k ≤ n.toNat ∧ i = .int .i64 k ∧ Sh (Blk wr gm 28 (U64s (fillM m at_.toNat v k))) ∧ Sh (Kp [gm] w1 wr)) (fun i _ => n.toNat - (intOf i).toNat)
    case atStart => exact ⟨0, Nat.zero_le _, rfl, HL, ⟨Kp.refl _ _⟩⟩
    case round =>
      obtain ⟨k, hk, rfl, HLk, HKk⟩ := hrel
      by_cases hlt : k < n.toNat
      · have hc : wr.cell? ⟨gm, at_.toNat + k, none⟩ = some (.int .u64 (rd0 (fillM m at_.toNat v k) (at_.toNat + k))) := by rw [HLk.out.cell]; exact U64s_at _ _ (by rw [fillM_len]; omega)
        have hfz := HLk.out.frozen (at_.toNat + k)
        have hidx : (at_ + (k : Int)).toNat = at_.toNat + k := by omega
        have hk1 : (k : Int) < n := by omega
        go_wp2
        go_roundw
        case rel =>
          refine ⟨k + 1, by omega, by go_num, ⟨?_⟩, ⟨HKk.out.set_ (by simp) _⟩⟩
          rw [fillM, ← U64s_set]; exact HLk.out.set_ _ _
        case measure => simp [intOf]; omega
      · obtain rfl : k = n.toNat := by omega
        go_wp2
        all_goals go_ret
        all_goals refine ⟨rfl, fillM m at_.toNat v n.toNat, ⟨H5.out.kp HKk.out (by have := HT.out.na; simpa using this) (by have := HT.out.ne; simpa using this.symm), HLk.out, HT.out.ne⟩, fillM_len _ _ _ _, H6.out.trans (HKk.out.mono (by simp))⟩
  · have HI := Sh.mk hin
    clear h hin
    go_enter Try.func19, Try.ntmps19
    go_wp2_with fail
    (with_reducible refine (fill_out ga gb m _ _ _ _ HT.out.ar HI.out).mono ?_); rintro e w' ⟨rfl, rfl⟩
    go_wp2_with fail
    (with_reducible refine (there_out _ _ _ _ _ _ hs HI.out).mono ?_); rintro e w' ⟨rfl, rfl⟩
    go_wp2
    go_ret
    exact ⟨rfl, m, HT.out, rfl, Kp.refl _ _⟩
end Go.Proofs.Ytncmebefgklpjaa
