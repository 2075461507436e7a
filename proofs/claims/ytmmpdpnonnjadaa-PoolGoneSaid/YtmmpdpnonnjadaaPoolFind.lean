/- find of a pool: a contract. No statement is proved here. -/
import Derived.Test.YtmmpdpnonnjadaaPoolLen
import Derived.Test.YtmmpdpnonnjadaaScope
namespace Go.Proofs.Ytmmpdpnonnjadaa
set_option linter.unusedVariables false
set_option linter.unusedSimpArgs false
open Go.RowKit Go.Proofs.YtmmpdpnonnjadaaW.PrintWords Go.Proofs.YtmmpdpnonnjadaaW.PrintLast Go.Proofs.YtmmpdpnonnjadaaW.PrintMore Pr

def fndP (c : Int) : List Pt → Nat → Int → Int × Int × Bool
  | [], _, _ => (0, 0, false)
  | p :: L, i, a => if hit c p.page a = true then ((i : Int), (a - p.page * 64) / wdC c, true) else fndP c L (i + 1) a
theorem fndP_drop (c : Int) (L : List Pt) (i : Nat) (a : Int) (hi : i < L.length) : fndP c (L.drop i) i a = if hit c L[i].page a = true then ((i : Int), (a - L[i].page * 64) / wdC c, true) else fndP c (L.drop (i + 1)) (i + 1) a := by
  rw [List.drop_eq_getElem_cons hi]; rfl
theorem adr_mono {c : Int} (hc : 0 ≤ c ∧ c ≤ 3) (page : Int) {j k : Nat} (h : j ≤ k) : adr c page j ≤ adr c page k := by
  unfold adr
  rcases cls_cases hc with ⟨_, h1, _⟩ | ⟨_, h1, _⟩ | ⟨_, h1, _⟩ | ⟨_, h1, _⟩ <;> rw [h1] <;> omega
theorem adr_quo {c : Int} (hc : 0 ≤ c ∧ c ≤ 3) (page : Int) (k : Nat) : (adr c page k - page * 64) / wdC c = k := by
  unfold adr
  rcases cls_cases hc with ⟨_, h1, _⟩ | ⟨_, h1, _⟩ | ⟨_, h1, _⟩ | ⟨_, h1, _⟩ <;> rw [h1] <;> omega
theorem hit_no {c : Int} (hc : 0 ≤ c ∧ c ≤ 3) {page a : Int} {k : Nat} (h1 : ∀ j, j < k → adr c page j < a) (h2 : ∀ j, k ≤ j → j < perC c → a < adr c page j) : hit c page a = false := by
  cases h : hit c page a with
  | false => rfl
  | true =>
    obtain ⟨j, hj, rfl⟩ := hit_get hc h
    by_cases hk : j < k
    · have := h1 j hk; omega
    · have := h2 j (by omega) hj; omega
set_option maxRecDepth 100000 in
set_option maxHeartbeats 4000000 in
theorem find_pool {F : Nat → Prop} {ga gp : Nat} {c : Int} {N : Nat} {Ps : List Pt} {W : World} (h : PSt F ga gp c N Ps W) (a : Int) :
    Calls Try.prog 33 #[.pointer (some ⟨gp, 0, none⟩), .int .i64 a] W fun e w' => e = .returned (.tuple #[.int .i64 (fndP c Ps 0 a).1, .int .i64 (fndP c Ps 0 a).2.1, .bool (fndP c Ps 0 a).2.2]) ∧ Below W.heap.size W w' := by
  have hu63 := Try.underlying63
  obtain ⟨gb, M, L, v, rfl, hp⟩ := h
  have HP := Sh.mk hp
  have hlen := hp.llen
  obtain ⟨A, cap, rfl, hcap⟩ := hp.slice
  have hc1 := (hp.pl.cell 1).trans (show _ = some (Value.slice A L.length cap) from rfl)
  have HCC := Sh.mk hp.cc
  obtain ⟨r, hr⟩ : ∃ r, r = fndP c (L.map (·.1)) 0 a := ⟨_, rfl⟩
  rw [← hr]
  have HRR : Sh (r = fndP c ((L.map (·.1)).drop 0) 0 a) := ⟨hr⟩
  clear hp hr
  obtain ⟨x4, hx4⟩ : ∃ x, x = perC c := ⟨_, rfl⟩
  have HX4 := Sh.mk hx4
  have hper : x4 ≤ 16 := by rcases cls_cases HCC.out with h | h | h | h <;> omega
  clear hx4
  go_enter Try.func33, Try.ntmps33
  go_wp2
  refine wp_scope_body ?_
  go_wp2
  go_step3
  go_wp2
  go_loopw [16] (fun iv wr => ∃ (i : Nat), i ≤ L.length ∧ iv = .int .i64 i ∧ Sh (r = fndP c ((L.map (·.1)).drop i) i a) ∧ Sh (Below W.heap.size W wr)) (fun iv _ => L.length - (intOf iv).toNat)
  case atStart => exact ⟨0, Nat.zero_le _, rfl, HRR, ⟨Below.refl _ _⟩⟩
  case round =>
    clear HRR
    obtain ⟨i, hi, rfl, HN, HB⟩ := hrel
    by_cases hlt : i < L.length
    · have HPB := Sh.mk (HP.out.below HB.out)
      obtain ⟨g0, cap', hv, hF, hc2, hc3, hfz, k0, k1, k2, k3⟩ := HPB.out.at_ i hlt
      simp only [Value.slice.injEq] at hv
      obtain ⟨rfl, _, rfl⟩ := hv
      have hn := HN.out
      rw [fndP_drop _ _ _ _ (by rw [List.length_map]; exact hlt)] at hn
      rw [List.getElem_map] at hn
      have hfit := HP.out.gd.1 L[i].1 (List.mem_map.2 ⟨L[i], List.getElem_mem _, rfl⟩)
      have hnn := HP.out.nn
      have hpg : 0 ≤ L[i].1.page ∧ L[i].1.page ≤ 256 := ⟨hfit.1, by have := hfit.2.1; omega⟩
      obtain ⟨x0, hx0⟩ : ∃ x, x = L[i].1.page := ⟨_, rfl⟩
      obtain ⟨x1, hx1⟩ : ∃ x, x = hd L[i].1.free := ⟨_, rfl⟩
      obtain ⟨x2, hx2⟩ : ∃ x : Int, x = (L[i].1.free.length : Nat) := ⟨_, rfl⟩
      obtain ⟨x3, hx3⟩ : ∃ x, x = L[i].2 := ⟨_, rfl⟩
      rw [← hx0] at k0 hn hpg
      rw [← hx1] at k1
      rw [← hx2] at k2
      rw [← hx3, ← HX4.out] at k3
      have HN := Sh.mk hn
      clear hx0 hx1 hx2 hx3 hfz hF hc3 hn hfit hnn
      obtain ⟨gx, hgx⟩ : ∃ g, g = wr.heap.size := ⟨_, rfl⟩
      have HX : Sh (Blk (wr.alloc (.cells #[.int .i64 x0, .int .i64 x1, .int .i64 x2, .slice (some ⟨x3, 0, none⟩) x4 x4] 63)) gx 63 #[.int .i64 x0, .int .i64 x1, .int .i64 x2, .slice (some ⟨x3, 0, none⟩) x4 x4]) := ⟨Blk.new_ _ _ _ hgx⟩
      have HB1 := Sh.mk (below_alloc HB.out (.cells #[.int .i64 x0, .int .i64 x1, .int .i64 x2, .slice (some ⟨x3, 0, none⟩) x4 x4] 63))
      go_upto_region 5 with fail
      rw [← hgx]
      obtain ⟨wz, hwz⟩ : ∃ z, z = wr.alloc (.cells #[.int .i64 x0, .int .i64 x1, .int .i64 x2, .slice (some ⟨x3, 0, none⟩) x4 x4] 63) := ⟨_, rfl⟩
      rw [← hwz] at HX HB1 ⊢
      clear hwz hgx k0 k1 k2 k3
      go_loopw [24] (fun kv wk => ∃ (k : Nat), k ≤ x4 ∧ kv = .int .i64 k ∧ Sh (∀ j, j < k → adr c x0 j < a) ∧ Sh (Below wz.heap.size wz wk)) (fun kv _ => x4 - (intOf kv).toNat)
      case atStart => exact ⟨0, Nat.zero_le _, rfl, ⟨fun j hj => absurd hj (Nat.not_lt_zero _)⟩, ⟨Below.refl _ _⟩⟩
      case round =>
        obtain ⟨k, hk, rfl, HJ, HBK⟩ := hrel
        by_cases hkl : k < x4
        · have hb0 := (HX.out.kp (Kp.of_below HBK.out []) (by simp))
          have y0 := (hb0.cell 0).trans (show _ = some (Value.int .i64 x0) from rfl)
          have HAD : Sh (Calls Try.prog 27 #[.pointer (some ⟨gp, 0, none⟩), .int .i64 x0, .int .i64 (k : Int)] wr fun e w' => e = .returned (.int .i64 (adr c x0 k)) ∧ Below wr.heap.size wr w') := ⟨address_any gp c _ x0 k wr HCC.out ((HP.out.below (below_step HB1.out HBK.out)).pl) (by omega) (by omega)⟩
          clear hb0
          obtain ⟨y, hy⟩ : ∃ y, y = adr c x0 k := ⟨_, rfl⟩
          rw [← hy] at HAD
          by_cases h1 : y = a
          · have b1 : (y == a) = true := beq_iff_eq.2 h1
            have HR : Sh (r = ((i : Int), (k : Int), true)) := ⟨by
              rw [HN.out, if_pos (by rw [← h1, hy]; exact hit_adr HCC.out (by rw [← HX4.out]; exact hkl)), ← h1, hy, adr_quo HCC.out]⟩
            clear hy
            go_wp2_with fail
            (with_reducible refine HAD.out.mono ?_); rintro e w5 ⟨rfl, hb⟩
            have HB5 := Sh.mk hb
            clear hb
            go_wp2
            go_ret3
            exact ⟨by obtain rfl := HR.out; rfl, below_step (below_step HB1.out HBK.out) HB5.out⟩
          · have b1 : (y == a) = false := beq_eq_false_iff_ne.2 h1
            by_cases h2 : a < y
            · have HH : Sh (hit c x0 a = false) := ⟨hit_no HCC.out (k := k) HJ.out (fun j hj _ => by have := adr_mono HCC.out x0 hj; omega)⟩
              have hn := HN.out
              rw [HH.out, if_neg (by simp)] at hn
              have HN2 := Sh.mk hn
              clear hy hn HN
              go_wp2_with fail
              (with_reducible refine HAD.out.mono ?_); rintro e w5 ⟨rfl, hb⟩
              have HB5 := Sh.mk hb
              clear hb
              go_wp2_with fail
              go_roundw
              case rel => exact ⟨i + 1, by omega, by go_num, HN2, ⟨below_step (below_step HB1.out HBK.out) HB5.out⟩⟩
              case measure => simp [intOf]; omega
            · have HJ2 : Sh (∀ j, j < k + 1 → adr c x0 j < a) := ⟨fun j hj => by
                by_cases e : j = k
                · rw [e, ← hy]; omega
                · exact HJ.out j (by omega)⟩
              clear hy
              go_wp2_with fail
              (with_reducible refine HAD.out.mono ?_); rintro e w5 ⟨rfl, hb⟩
              have HB5 := Sh.mk hb
              clear hb
              go_wp2_with fail
              go_roundw
              case rel => exact ⟨k + 1, by omega, by go_num, HJ2, ⟨below_step HBK.out HB5.out⟩⟩
              case measure => simp [intOf]; omega
        · obtain rfl : k = x4 := by omega
          have HH : Sh (hit c x0 a = false) := ⟨hit_no HCC.out (k := k) HJ.out (fun j hj hj2 => by rw [← HX4.out] at hj2; omega)⟩
          have hn := HN.out
          rw [HH.out, if_neg (by simp)] at hn
          have HN2 := Sh.mk hn
          clear hn HN
          go_wp2
          go_roundw
          case rel => exact ⟨i + 1, by omega, by go_num, HN2, ⟨below_step HB1.out HBK.out⟩⟩
          case measure => simp [intOf]; omega
    · obtain rfl : i = L.length := by omega
      have HR : Sh (r = (0, 0, false)) := ⟨by rw [HN.out, List.drop_of_length_le (by rw [List.length_map]; omega)]; rfl⟩
      go_wp2
      go_ret3
      exact ⟨by obtain rfl := HR.out; rfl, HB.out⟩
end Go.Proofs.Ytmmpdpnonnjadaa
