/- LinAll: its walk. No row is proved here. -/
import Derived.Test.YtpddppipjlagfaaLinAwake
namespace Go.Proofs.Ytpddppipjlagfaa
set_option linter.unusedVariables false
set_option linter.unusedSimpArgs false
open Go.RowKit Go.Proofs.YtpddppipjlagfaaW.PrintWords Go.Proofs.YtpddppipjlagfaaW.PrintLast Go.Proofs.YtpddppipjlagfaaW.PrintMore Pr Go.Proofs.Ytpddppipjlagfaa.Pure Go.Proofs.Ytpddppipjlagfaa.Dfs

set_option maxRecDepth 100000 in
set_option maxHeartbeats 8000000 in
theorem linAll_walk (u : Int) (A : Option Addr) (c : Nat) (l : List Oq) (B : Option Addr) (cB : Nat) (o : List Int) (w : World) (hu0 : 0 ≤ u) (hu1 : u < 65536) (hr : Kd.C k40 w A l.length l) (hc : l.length ≤ c) (ho : Kd.C (Kd.int .i64) w B o.length o) (hcB : o.length ≤ cB) :
    Calls Try.prog 3 #[.int .u16 u, .slice A l.length c, .slice B o.length cB] w fun e w' => e = .returned (.bool true) ∧ Below w.heap.size w w' := by
  have HR := Sh.mk hr
  have HO := Sh.mk ho
  clear hr ho
  by_cases c1 : l.length ≤ 60
  · have d1 : decide (60 < l.length) = false := decide_eq_false (by omega)
    have d2 : decide ((60 : Int) < (l.length : Int)) = false := decide_eq_false (by omega)
    by_cases c2 : o.length ≤ 100
    · have d3 : decide (100 < o.length) = false := decide_eq_false (by omega)
      have d4 : decide ((100 : Int) < (o.length : Int)) = false := decide_eq_false (by omega)
      obtain ⟨m, hm⟩ : ∃ m, m = u % 16385 := ⟨_, rfl⟩
      have hmo : mOk m := ⟨by omega, by omega⟩
      have w1 : IntKind.i64.wrap u = u := IntWalk.i64_in _ (by omega)
      have w2 : u.tmod 16385 = m := by rw [hm]; exact Int.tmod_eq_emod_of_nonneg hu0
      have w3 : IntKind.i64.wrap m = m := IntWalk.i64_in _ (by omega)
      have HS := Sh.mk (lsame_any m A c l B cB o w hmo HR.out hc HO.out hcB (by omega) (by omega))
      clear hm hmo
      go_enter Try.func3, Try.ntmps3
      go_wp2_with fail
      (with_reducible refine HS.out.mono ?_); rintro e w4 ⟨rfl, b⟩
      have B4 := Sh.mk b
      clear b
      go_wp2_with fail
      (with_reducible refine (lawake_any w4).mono ?_); rintro e w5 ⟨rfl, b⟩
      have B5 : Sh (Below w.heap.size w w5) := ⟨below_then B4.out B4.out.size b⟩
      clear b
      go_wp2
      go_ret
      exact ⟨rfl, B5.out⟩
    · have d3 : decide (100 < o.length) = true := decide_eq_true (by omega)
      have d4 : decide ((100 : Int) < (o.length : Int)) = true := decide_eq_true (by omega)
      go_enter Try.func3, Try.ntmps3
      go_wp2_with fail
      (with_reducible refine (lawake_any w).mono ?_); rintro e w5 ⟨rfl, b⟩
      have B5 := Sh.mk b
      clear b
      go_wp2
      go_ret
      exact ⟨rfl, B5.out⟩
  · have d1 : decide (60 < l.length) = true := decide_eq_true (by omega)
    have d2 : decide ((60 : Int) < (l.length : Int)) = true := decide_eq_true (by omega)
    go_enter Try.func3, Try.ntmps3
    go_wp2_with fail
    (with_reducible refine (lawake_any w).mono ?_); rintro e w5 ⟨rfl, b⟩
    have B5 := Sh.mk b
    clear b
    go_wp2
    go_ret
    exact ⟨rfl, B5.out⟩
end Go.Proofs.Ytpddppipjlagfaa
