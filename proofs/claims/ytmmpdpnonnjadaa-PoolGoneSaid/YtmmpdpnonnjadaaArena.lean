/- What each method of an arena does to memory, as a call (contracts). No statement is proved here. -/
import Derived.Test.YtmmpdpnonnjadaaWord
namespace Go.Proofs.Ytmmpdpnonnjadaa
open Go.RowKit

/-- An arena in block ga, its words in block gb: they are m. -/
structure Ar (w : World) (ga gb : Nat) (m : List Int) : Prop where
  st : Blk w ga 57 #[.slice (some ⟨gb, 0, none⟩) m.length m.length]
  ws : Blk w gb 87 (U64s m)
  small : m.length ≤ 16384
theorem Ar.ne {w : World} {ga gb : Nat} {m : List Int} (h : Ar w ga gb m) : ga ≠ gb := h.st.ne_ h.ws (by decide)
theorem Ar.kp {w w' : World} {ga gb : Nat} {m : List Int} {S : List Nat} (h : Ar w ga gb m) (k : Kp S w w') (ha : ga ∉ S) (hb : gb ∉ S) : Ar w' ga gb m := ⟨h.st.kp k ha, h.ws.kp k hb, h.small⟩
theorem Ar.hd {w : World} {ga gb : Nat} {m : List Int} (h : Ar w ga gb m) : w.cell? ⟨ga, 0, none⟩ = some (.slice (some ⟨gb, 0, none⟩) m.length m.length) := by rw [h.st.cell 0]; rfl
theorem Ar.at_ {w : World} {ga gb : Nat} {m : List Int} (h : Ar w ga gb m) (i : Nat) (hi : i < m.length) : w.cell? ⟨gb, i, none⟩ = some (.int .u64 (rd0 m i)) := by rw [h.ws.cell i]; exact U64s_at m i hi
theorem Ar.set_ {w : World} {ga gb : Nat} {m : List Int} (h : Ar w ga gb m) (i : Nat) (v : Int) : Ar (w.setCell ⟨gb, i, none⟩ (.int .u64 v)) ga gb (m.set i v) :=
  ⟨by rw [List.length_set]; exact h.st.far h.ne _, by rw [← U64s_set]; exact h.ws.set_ i _, by rw [List.length_set]; exact h.small⟩

/-- Are the n words from at on there? -/
def There (L : Nat) (at_ n : Int) : Prop := 0 ≤ at_ ∧ 0 ≤ n ∧ at_ ≤ L ∧ n ≤ L - at_
instance (L : Nat) (at_ n : Int) : Decidable (There L at_ n) := by unfold There; infer_instance

set_option maxHeartbeats 400000 in
theorem part_nil (at_ n : Int) (w : World) :
    Calls Try.prog 51 #[.pointer none, .int .i64 at_, .int .i64 n] w fun e w' => e = .returned (.tuple #[.slice none 0 0, .int .i64 2]) ∧ w = w' := by
  go_enter Try.func51, Try.ntmps51
  go_wp2
  go_ret2
  exact ⟨rfl, rfl⟩

/-- What part hands back where the words are there. -/
def IsPart (gb : Nat) (L : Nat) (at_ n : Int) (e : Ending) : Prop :=
  ∃ A c, e = .returned (.tuple #[.slice A n.toNat c, .int .i64 0]) ∧ (0 < n → A = some ⟨gb, at_.toNat, none⟩) ∧ c ≤ L ∧ n.toNat ≤ c

set_option maxHeartbeats 400000 in
theorem part_in (ga gb : Nat) (m : List Int) (at_ n : Int) (w : World) (h : Ar w ga gb m) (ht : There m.length at_ n) :
    Calls Try.prog 51 #[.pointer (some ⟨ga, 0, none⟩), .int .i64 at_, .int .i64 n] w fun e w' => IsPart gb m.length at_ n e ∧ w = w' := by
  obtain ⟨h0, h1, h2, h3⟩ := ht
  have hc := h.hd
  have hs := h.small
  clear h
  go_enter Try.func51, Try.ntmps51
  by_cases he : m.length = at_.toNat
  · have he1 := Sh.mk he
    have hb : (m.length == at_.toNat) = true := by simpa using he
    go_wp2
    all_goals go_ret2
    all_goals exact ⟨⟨_, _, congrArg (fun z => Ending.returned (.tuple #[.slice _ z _, .int .i64 0])) (by have := he1.out; omega), fun hn => by have := he1.out; omega, by have := he1.out; omega, by have := he1.out; omega⟩, rfl⟩
  · go_wp2
    all_goals go_ret2
    all_goals exact ⟨⟨_, _, congrArg (fun z => Ending.returned (.tuple #[.slice _ z _, .int .i64 0])) (by omega), fun _ => rfl, by omega, by omega⟩, rfl⟩

set_option maxHeartbeats 400000 in
theorem part_out (ga gb : Nat) (m : List Int) (at_ n : Int) (w : World) (h : Ar w ga gb m) (ht : ¬ There m.length at_ n) :
    Calls Try.prog 51 #[.pointer (some ⟨ga, 0, none⟩), .int .i64 at_, .int .i64 n] w fun e w' => e = .returned (.tuple #[.slice none 0 0, .int .i64 1]) ∧ w = w' := by
  have hc := h.hd
  have hs := h.small
  clear h
  unfold There at ht
  by_cases h0 : at_ < 0
  · clear ht
    go_enter Try.func51, Try.ntmps51
    go_wp2
    go_ret2
    exact ⟨rfl, rfl⟩
  · by_cases h1 : n < 0
    · clear ht
      have h0' : 0 ≤ at_ := by omega
      go_enter Try.func51, Try.ntmps51
      go_wp2
      go_ret2
      exact ⟨rfl, rfl⟩
    · by_cases h2 : (m.length : Int) < at_
      · have h0' : 0 ≤ at_ := by omega
        have h1' : 0 ≤ n := by omega
        clear ht
        go_enter Try.func51, Try.ntmps51
        go_wp2
        go_ret2
        exact ⟨rfl, rfl⟩
      · have h0' : 0 ≤ at_ := by omega
        have h1' : 0 ≤ n := by omega
        have h2' : at_ ≤ (m.length : Int) := by omega
        have h3 : (m.length : Int) - at_ < n := by omega
        clear ht
        go_enter Try.func51, Try.ntmps51
        go_wp2
        go_ret2
        exact ⟨rfl, rfl⟩

set_option maxHeartbeats 400000 in
theorem len_nil (w : World) :
    Calls Try.prog 43 #[.pointer none] w fun e w' => e = .returned (.int .i64 0) ∧ w = w' := by
  go_enter Try.func43, Try.ntmps43
  go_wp2
  go_ret
  exact ⟨rfl, rfl⟩
set_option maxHeartbeats 400000 in
theorem len_any (ga gb : Nat) (m : List Int) (w : World) (h : Ar w ga gb m) :
    Calls Try.prog 43 #[.pointer (some ⟨ga, 0, none⟩)] w fun e w' => e = .returned (.int .i64 m.length) ∧ w = w' := by
  have hc := h.hd
  have hs := h.small
  clear h
  go_enter Try.func43, Try.ntmps43
  go_wp2
  go_ret
  exact ⟨rfl, rfl⟩
set_option maxHeartbeats 400000 in
theorem pages_nil (w : World) :
    Calls Try.prog 24 #[.pointer none] w fun e w' => e = .returned (.int .i64 0) ∧ w = w' := by
  go_enter Try.func24, Try.ntmps24
  go_wp2_with (first | (go_at_call 43; (with_reducible refine (len_nil _).mono ?_); rintro e w' ⟨rfl, rfl⟩))
  go_ret
  exact ⟨rfl, rfl⟩
set_option maxHeartbeats 400000 in
theorem pages_any (ga gb : Nat) (m : List Int) (w : World) (h : Ar w ga gb m) :
    Calls Try.prog 24 #[.pointer (some ⟨ga, 0, none⟩)] w fun e w' => e = .returned (.int .i64 ((m.length : Int) / 64)) ∧ w = w' := by
  have hs := h.small
  go_enter Try.func24, Try.ntmps24
  go_wp2_with (first | (go_at_call 43; (with_reducible refine (len_any _ _ _ _ h).mono ?_); rintro e w' ⟨rfl, rfl⟩))
  go_ret
  exact ⟨rfl, rfl⟩

set_option maxHeartbeats 400000 in
theorem load_nil (at_ : Int) (w : World) :
    Calls Try.prog 47 #[.pointer none, .int .i64 at_] w fun e w' => e = .returned (.tuple #[.int .u64 0, .int .i64 2]) ∧ w = w' := by
  go_enter Try.func47, Try.ntmps47
  go_wp2_with (first | (go_at_call 51; (with_reducible refine (part_nil _ _ _).mono ?_); rintro e w' ⟨rfl, rfl⟩))
  go_ret2
  exact ⟨rfl, rfl⟩
set_option maxHeartbeats 400000 in
theorem load_in (ga gb : Nat) (m : List Int) (at_ : Int) (w : World) (h : Ar w ga gb m) (h0 : 0 ≤ at_) (h1 : at_ < m.length) :
    Calls Try.prog 47 #[.pointer (some ⟨ga, 0, none⟩), .int .i64 at_] w fun e w' => e = .returned (.tuple #[.int .u64 (rd0 m at_.toNat), .int .i64 0]) ∧ w = w' := by
  have hs := h.small
  have HA := Sh.mk h
  have HT : Sh (There m.length at_ 1) := ⟨⟨by omega, by omega, by omega, by omega⟩⟩
  have hc := h.at_ at_.toNat (by omega)
  clear h
  go_enter Try.func47, Try.ntmps47
  go_wp2_with (first | (go_at_call 51; (with_reducible refine (part_in ga gb m _ _ _ HA.out HT.out).mono ?_); rintro e w' ⟨⟨A, c, rfl, hA, hc1, hc2⟩, rfl⟩; obtain rfl := hA (by omega); clear hA))
  go_ret2
  exact ⟨rfl, rfl⟩
set_option maxHeartbeats 400000 in
theorem load_out (ga gb : Nat) (m : List Int) (at_ : Int) (w : World) (h : Ar w ga gb m) (ht : ¬ (0 ≤ at_ ∧ at_ < m.length)) :
    Calls Try.prog 47 #[.pointer (some ⟨ga, 0, none⟩), .int .i64 at_] w fun e w' => e = .returned (.tuple #[.int .u64 0, .int .i64 1]) ∧ w = w' := by
  have hs := h.small
  have HA := Sh.mk h
  have HT : Sh (¬ There m.length at_ 1) := ⟨fun hh => ht (by unfold There at hh; omega)⟩
  clear ht h
  go_enter Try.func47, Try.ntmps47
  go_wp2_with (first | (go_at_call 51; (with_reducible refine (part_out ga gb m _ _ _ HA.out HT.out).mono ?_); rintro e w' ⟨rfl, rfl⟩))
  go_ret2
  exact ⟨rfl, rfl⟩

/-- n words from a on, each v. -/
def fillM (m : List Int) (a : Nat) (v : Int) : Nat → List Int
  | 0 => m
  | k + 1 => (fillM m a v k).set (a + k) v
theorem fillM_len (m : List Int) (a : Nat) (v : Int) (k : Nat) : (fillM m a v k).length = m.length := by
  induction k with
  | zero => rfl
  | succ k ih => simp [fillM, ih]

set_option maxHeartbeats 400000 in
theorem fill_nil (at_ n v : Int) (w : World) :
    Calls Try.prog 49 #[.pointer none, .int .i64 at_, .int .i64 n, .int .u64 v] w fun e w' => e = .returned (.int .i64 2) ∧ w = w' := by
  go_enter Try.func49, Try.ntmps49
  go_wp2_with (first | (go_at_call 51; (with_reducible refine (part_nil _ _ _).mono ?_); rintro e w' ⟨rfl, rfl⟩))
  go_loop [21, 11] (fun i _ => i = .int .i64 0) (fun _ _ => 0)
  case atStart => exact rfl
  case round =>
    subst hrel
    go_wp2
    go_ret
    exact ⟨rfl, rfl⟩
set_option maxHeartbeats 400000 in
theorem fill_out (ga gb : Nat) (m : List Int) (at_ n v : Int) (w : World) (h : Ar w ga gb m) (ht : ¬ There m.length at_ n) :
    Calls Try.prog 49 #[.pointer (some ⟨ga, 0, none⟩), .int .i64 at_, .int .i64 n, .int .u64 v] w fun e w' => e = .returned (.int .i64 1) ∧ w = w' := by
  have HT := Sh.mk ht
  clear ht
  go_enter Try.func49, Try.ntmps49
  go_wp2_with (first | (go_at_call 51; (with_reducible refine (part_out ga gb m _ _ _ h HT.out).mono ?_); rintro e w' ⟨rfl, rfl⟩))
  go_loop [21, 11] (fun i _ => i = .int .i64 0) (fun _ _ => 0)
  case atStart => exact rfl
  case round =>
    subst hrel
    go_wp2
    go_ret
    exact ⟨rfl, rfl⟩
set_option maxHeartbeats 1000000 in
theorem fill_in (ga gb : Nat) (m : List Int) (at_ n v : Int) (w : World) (h : Ar w ga gb m) (ht : There m.length at_ n) :
    Calls Try.prog 49 #[.pointer (some ⟨ga, 0, none⟩), .int .i64 at_, .int .i64 n, .int .u64 v] w fun e w' => e = .returned (.int .i64 0) ∧ Ar w' ga gb (fillM m at_.toNat v n.toNat) ∧ Kp [gb] w w' := by
  have hs := h.small
  have HT := Sh.mk ht
  obtain ⟨h0, h1, h2, h3⟩ := ht
  have HA := Sh.mk h
  go_enter Try.func49, Try.ntmps49
  go_wp2_with (first | (go_at_call 51; (with_reducible refine (part_in ga gb m _ _ _ HA.out HT.out).mono ?_); rintro e w' ⟨⟨A, c, rfl, hA, hc1, hc2⟩, rfl⟩; have HAA := Sh.mk hA; clear hA))
  go_loopw [21, 11] (fun i _ wr => ∃ k : Nat, k ≤ n.toNat ∧ i = .int .i64 k ∧ Sh (Ar wr ga gb (fillM m at_.toNat v k)) ∧ Sh (Kp [gb] w wr)) (fun i _ _ => n.toNat - (intOf i).toNat)
  case atStart => exact ⟨0, Nat.zero_le _, rfl, HA, ⟨Kp.refl _ _⟩⟩
  case round =>
    obtain ⟨k, hk, rfl, HR, HK⟩ := hrel
    by_cases hlt : k < n.toNat
    · obtain rfl := HAA.out (by omega)
      have hcell := HR.out.at_ (at_.toNat + k) (by rw [fillM_len]; omega)
      have hfz := HR.out.ws.frozen (at_.toNat + k)
      have hk63 : k < 16384 := by omega
      go_wp2
      go_roundw
      case rel => exact ⟨k + 1, by omega, by go_num, ⟨HR.out.set_ _ _⟩, ⟨HK.out.set_ (by simp) _⟩⟩
      case measure => simp [intOf]; omega
    · obtain rfl : k = n.toNat := by omega
      go_wp2
      go_ret
      exact ⟨rfl, HR.out, HK.out⟩

theorem fillM_one (m : List Int) (a : Nat) (v : Int) : fillM m a v 1 = m.set a v := by simp [fillM]
set_option maxHeartbeats 400000 in
theorem store_nil (at_ v : Int) (w : World) :
    Calls Try.prog 44 #[.pointer none, .int .i64 at_, .int .u64 v] w fun e w' => e = .returned (.int .i64 2) ∧ w = w' := by
  go_enter Try.func44, Try.ntmps44
  go_wp2_with (first | (go_at_call 49; (with_reducible refine (fill_nil _ _ _ _).mono ?_); rintro e w' ⟨rfl, rfl⟩))
  go_ret
  exact ⟨rfl, rfl⟩
set_option maxHeartbeats 400000 in
theorem store_out (ga gb : Nat) (m : List Int) (at_ v : Int) (w : World) (h : Ar w ga gb m) (ht : ¬ (0 ≤ at_ ∧ at_ < m.length)) :
    Calls Try.prog 44 #[.pointer (some ⟨ga, 0, none⟩), .int .i64 at_, .int .u64 v] w fun e w' => e = .returned (.int .i64 1) ∧ w = w' := by
  have HA := Sh.mk h
  have HT : Sh (¬ There m.length at_ 1) := ⟨fun hh => ht (by unfold There at hh; omega)⟩
  clear ht h
  go_enter Try.func44, Try.ntmps44
  go_wp2_with (first | (go_at_call 49; (with_reducible refine (fill_out ga gb m _ _ _ _ HA.out HT.out).mono ?_); rintro e w' ⟨rfl, rfl⟩))
  go_ret
  exact ⟨rfl, rfl⟩
set_option maxHeartbeats 400000 in
theorem store_in (ga gb : Nat) (m : List Int) (at_ v : Int) (w : World) (h : Ar w ga gb m) (h0 : 0 ≤ at_) (h1 : at_ < m.length) :
    Calls Try.prog 44 #[.pointer (some ⟨ga, 0, none⟩), .int .i64 at_, .int .u64 v] w fun e w' => e = .returned (.int .i64 0) ∧ Ar w' ga gb (m.set at_.toNat v) ∧ Kp [gb] w w' := by
  have HA := Sh.mk h
  have HT : Sh (There m.length at_ 1) := ⟨⟨by omega, by omega, by omega, by omega⟩⟩
  clear h
  go_enter Try.func44, Try.ntmps44
  go_wp2_with (first | (go_at_call 49; (with_reducible refine (fill_in ga gb m _ _ _ _ HA.out HT.out).mono ?_); rintro e w' ⟨rfl, h5, h6⟩; have H5 := Sh.mk h5; have H6 := Sh.mk h6; clear h5 h6))
  go_ret
  refine ⟨rfl, ?_, H6.out⟩
  rw [← fillM_one]; exact H5.out

end Go.Proofs.Ytmmpdpnonnjadaa
