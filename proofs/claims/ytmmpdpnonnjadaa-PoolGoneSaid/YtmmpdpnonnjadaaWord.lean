/- Rows of words (uint64): what is read of them, how they are made. No statement is proved here. -/
import Derived.Test.YtmmpdpnonnjadaaBase
namespace Go.Proofs.Ytmmpdpnonnjadaa
open Go.RowKit Go.Proofs.YtmmpdpnonnjadaaW.PrintWords Go.Proofs.YtmmpdpnonnjadaaW.PrintLast

def U64s (m : List Int) : Array Value := (m.map (Value.int .u64)).toArray
theorem U64s_size (m : List Int) : (U64s m).size = m.length := by simp [U64s]
theorem U64s_at (m : List Int) (i : Nat) (h : i < m.length) : (U64s m)[i]? = some (.int .u64 (rd0 m i)) := by
  simp [rd0, U64s, List.getElem?_map, List.getElem?_eq_getElem h, List.getD_eq_getElem?_getD]
theorem U64s_set (m : List Int) (i : Nat) (v : Int) : (U64s m).setIfInBounds i (.int .u64 v) = U64s (m.set i v) := by
  simp [U64s, List.map_set]
/-- A piece of a block of words, read as the print's kinds read it. -/
theorem C_blk {w : World} {g : Nat} {t : TypeId} {m : List Int} (h : Blk w g t (U64s m)) (A : Option Addr) (x n : Nat) (hA : 0 < n → A = some ⟨g, x, none⟩) (hle : x + n ≤ m.length) (hs : m.length ≤ 140737488355328) :
    Kd.C (Kd.int .u64) w A ((m.drop x).take n).length ((m.drop x).take n) := by
  have hl : ((m.drop x).take n).length = n := by simp; omega
  refine ⟨rfl, by omega, fun hn => ⟨_, hA (by omega), fun j p hp => ⟨[.int .u64 p], rfl, rfl, fun i u hu => ?_⟩⟩⟩
  have hj : j < n := by
    have := (List.getElem?_eq_some_iff.1 hp).1
    omega
  have hi : i = 0 := by
    have := (List.getElem?_eq_some_iff.1 hu).1
    simp at this
    omega
  subst hi
  simp only [List.getElem?_cons_zero, Option.some.injEq] at hu
  subst hu
  have e1 : (⟨g, x, none⟩ : Addr).add (j * (Kd.int .u64).sz + 0) = ⟨g, x + j, none⟩ := by
    show (⟨g, x, none⟩ : Addr).add (j * 1 + 0) = _
    unfold Addr.add; split <;> simp_all
  rw [e1, h.cell, U64s_at m _ (by omega)]
  rw [List.getElem?_take, if_pos hj, List.getElem?_drop] at hp
  rw [rd0_get m _ (by omega)]
  rw [List.getElem?_eq_getElem (by omega)] at hp
  simpa using hp
theorem C_whole {w : World} {g : Nat} {t : TypeId} {m : List Int} (h : Blk w g t (U64s m)) (hs : m.length ≤ 140737488355328) : Kd.C (Kd.int .u64) w (some ⟨g, 0, none⟩) m.length m := by
  have := C_blk h (some ⟨g, 0, none⟩) 0 m.length (fun _ => rfl) (by omega) hs
  simpa using this
/-- Words of the call's own, whole: what the print's kinds call owned. -/
theorem R_blk {w : World} {g base : Nat} {t : TypeId} {m : List Int} (h : Blk w g t (U64s m)) (hb : base ≤ g) (hs : m.length ≤ 140737488355328) (ok : Nat → Prop) (ho : ok g) : Kd.R (Kd.int .u64) t w base ok (.slice (some ⟨g, 0, none⟩) m.length m.length) m := by
  have e1 : (Kd.int .u64).sz = 1 := rfl
  refine ⟨fun k hk => by simp [Value.ownBlock] at hk; subst hk; exact ho, m.map (Value.int .u64), ⟨by rw [e1]; simp, .inr ⟨g, m.length, U64s m, rfl, hb, h, Nat.le_refl _, by simp [maxLen]; omega, by rw [U64s_size, e1, Nat.mul_one], ?_⟩⟩, ?_⟩
  · rw [e1]
    simp only [U64s, Nat.mul_one]
    exact List.take_of_length_le (by simp)
  · refine ⟨by rw [e1]; simp, fun j p hp => ?_⟩
    rw [e1]
    show (List.take 1 (List.drop (j * 1) (m.map (Value.int .u64)))) = [Value.int .u64 p]
    have hj := (List.getElem?_eq_some_iff.1 hp).1
    rw [Nat.mul_one, List.drop_eq_getElem_cons (by simpa using hj)]
    simp
    have := (List.getElem?_eq_some_iff.1 hp).2
    simpa using this

theorem info_u64 : (Try.prog.info? 87).map (fun i => (i.zero, i.size, i.bytes)) = some (some (.int .u64 0), 1, 8) := by kernel_rfl

theorem U64s_zero (n : Nat) : madeCells #[.int .u64 0] n = U64s (List.replicate n 0) := by
  rw [madeCells_one]; simp [U64s, List.map_replicate]

/-- make([]uint64, n): n words 0, a block of its own. -/
theorem run_make_u64 (N : Int) (h0 : 0 ≤ N) (h1 : N ≤ 1000000000) (w : World) :
    (Instr.makeSlice 55 (.int .i64 N) (.int .i64 N)).run Try.prog w = .ok (.slice (some ⟨w.heap.size, 0, none⟩) N.toNat N.toNat) (w.alloc (.cells (U64s (List.replicate N.toNat 0)) 87)) := by
  obtain ⟨i0, hi0, hz0, hz1, hz2⟩ := info_parts info_u64
  have hr := run_make_rowN (P := Try.prog) 55 87 i0 (.int .u64 0) Try.underlying55 hi0 hz0 .i64 .i64 N.toNat N.toNat (Nat.le_refl _) (by rw [hz2]; omega) (by omega) w
  rw [Int.toNat_of_nonneg h0] at hr
  rw [hr, hz1, Nat.mul_one]
  exact congrArg (fun c => Result.ok _ (w.alloc (.cells c 87))) (U64s_zero _)
end Go.Proofs.Ytmmpdpnonnjadaa
