/- slices.stableCmpFunc, SortStableFunc at pieces: contracts. No statement is proved here. -/
import Derived.Test.YthbknmblehecaaaPcSort3
namespace Go.Proofs.Ythbknmblehecaaa
set_option linter.unusedVariables false
set_option linter.unusedSimpArgs false
open Go.RowKit Go.Proofs.YthbknmblehecaaaW.PrintWords Go.Proofs.YthbknmblehecaaaW.PrintLast Go.Proofs.YthbknmblehecaaaW.PrintMore Pr Go.Proofs.Ythbknmblehecaaa.Pure

namespace Pure
theorem sortP_two (A B : List Pq) : sortP (sortP A ++ sortP B) = sortP (A ++ B) := by
  have h := sortP_is (sortP A ++ sortP B)
  exact sortP_eq ⟨h.srt, fun k => by rw [h.eqk, fk_append, fk_append, (sortP_is A).eqk, (sortP_is B).eqk]⟩
/-- Stretches of bs pieces each, every one in order. -/
inductive Chk (bs : Nat) : List Pq → List Pq → Prop
  | nil : Chk bs [] []
  | cons (X d r : List Pq) (hX : X.length = bs) (h : Chk bs d r) : Chk bs (X ++ d) (sortP X ++ r)
theorem Chk.append {bs : Nat} {d r d' r' : List Pq} (h : Chk bs d r) (h' : Chk bs d' r') : Chk bs (d ++ d') (r ++ r') := by
  induction h with
  | nil => exact h'
  | cons X d r hX h ih => rw [List.append_assoc, List.append_assoc]; exact .cons X _ _ hX ih
theorem Chk.one {bs : Nat} (X : List Pq) (hX : X.length = bs) : Chk bs X (sortP X) := by simpa using Chk.cons X [] [] hX .nil
theorem Chk.len {bs : Nat} {d r : List Pq} (h : Chk bs d r) : r.length = d.length := by
  induction h with
  | nil => rfl
  | cons X d r hX h ih => rw [List.length_append, List.length_append, sortP_length, ih]
/-- None, or one more. -/
theorem Chk.inv {bs : Nat} {d r : List Pq} (h : Chk bs d r) : (d = [] ∧ r = []) ∨ ∃ X d' r', d = X ++ d' ∧ r = sortP X ++ r' ∧ X.length = bs ∧ Chk bs d' r' := by
  cases h with
  | nil => exact .inl ⟨rfl, rfl⟩
  | cons X d r hX h => exact .inr ⟨X, d, r, rfl, rfl, hX, h⟩
theorem Chk.two {bs : Nat} {d r : List Pq} (h : Chk bs d r) (hl : bs < d.length) : ∃ X Y d' r', d = X ++ (Y ++ d') ∧ r = sortP X ++ (sortP Y ++ r') ∧ X.length = bs ∧ Y.length = bs ∧ Chk bs d' r' := by
  rcases h.inv with ⟨rfl, rfl⟩ | ⟨X, d', r', rfl, rfl, hX, h'⟩
  · simp at hl
  · rcases h'.inv with ⟨rfl, rfl⟩ | ⟨Y, d2, r2, rfl, rfl, hY, h2⟩
    · simp at hl; omega
    · exact ⟨X, Y, d2, r2, rfl, rfl, hX, hY, h2⟩
theorem Chk.small {bs : Nat} {d r : List Pq} (h : Chk bs d r) (hb : 1 ≤ bs) (hl : d.length ≤ bs) : (d = [] ∧ r = []) ∨ (d.length = bs ∧ r = sortP d) := by
  rcases h.inv with h' | ⟨X, d', r', rfl, rfl, hX, h'⟩
  · exact .inl h'
  · right
    have : d' = [] := List.eq_nil_of_length_eq_zero (by rw [List.length_append] at hl; omega)
    subst this
    have h2 := h'.len
    have : r' = [] := List.eq_nil_of_length_eq_zero (by simpa using h2)
    subst this
    simpa using hX
end Pure
variable {w0 : World} {g : Nat} {zs : List Value}

theorem symm_any (cap : Nat) : ∀ (N : Nat) (P A B S : List Pc), A.length + B.length ≤ N → Symm w0 g zs cap P A B S := by
  intro N
  induction N with
  | zero =>
    intro P A B S h n a m b w hrow hA hB h1 h2
    omega
  | succ N ih =>
    intro P A B S h n a m b w hrow hA hB h1 h2 hn ha hm hb hmax
    by_cases c1 : A.length = 1
    · obtain ⟨x, rfl⟩ := List.length_eq_one_iff.1 c1
      exact symm_left cap P x B S n a m b w hrow hB (by simpa using hn) ha hm hb hmax
    · by_cases c2 : B.length = 1
      · obtain ⟨y, rfl⟩ := List.length_eq_one_iff.1 c2
        exact symm_right cap P A y S n a m b w hrow hA (by simpa using hn) ha hm hb (by omega) hmax
      · exact symm_gen cap P A B S n a m b w hrow hA hB (by omega) (by omega) hn ha hm hb hmax (fun P' A' B' S' hl => ih P' A' B' S' (by omega))

set_option maxRecDepth 100000 in
set_option maxHeartbeats 16000000 in
theorem stable_any (cap : Nat) (d : List Pc) (n : Nat) (w : World) (hrow : Row w0 w g d zs) (hn : n = d.length) (hmax : n ≤ 1000000) :
    Calls Try.prog 68 #[.slice (some ⟨g, 0, none⟩) n cap, .int .i64 n, .func (.func 57) #[] #[]] w fun e w' => e = .returned (.tuple #[]) ∧ Row w0 w' g (sortP d) zs := by
  have HROW := Sh.mk hrow
  have HN := Sh.mk hn
  clear hrow hn
  go_enter Try.func68, Try.ntmps68
  go_wp2
  go_loopw [7, 8] (fun av bv wr => ∃ (a b : Nat) (d1 r1 X : List Pc), av = .int .i64 a ∧ bv = .int .i64 b ∧ Sh (b = a + 20) ∧ a ≤ n ∧ Sh (d = d1 ++ X ∧ a = d1.length ∧ Chk 20 d1 r1) ∧ Sh (Row w0 wr g (r1 ++ X) zs)) (fun av bv _ => n - (intOf av).toNat)
  case atStart => exact ⟨0, 20, [], [], d, rfl, rfl, ⟨rfl⟩, Nat.zero_le _, ⟨⟨rfl, rfl, .nil⟩⟩, HROW⟩
  case round =>
    obtain ⟨a, b, d1, r1, X, rfl, rfl, HBE, han, HD, HR⟩ := hrel
    have hb := HBE.out
    by_cases hlt : b ≤ n
    · have hlX : 20 ≤ X.length := by have h1 := HD.out; have h2 := HN.out; rw [h1.1, List.length_append] at h2; omega
      have HC : Sh (Calls Try.prog 72 #[.slice (some ⟨g, 0, none⟩) n cap, .int .i64 a, .int .i64 b, .func (.func 57) #[] #[]] wr fun e w' => e = .returned (.tuple #[]) ∧ Row w0 w' g (r1 ++ (sortP (X.take 20) ++ X.drop 20)) zs) := ⟨by
        have h1 := HD.out; have h2 := HN.out; have h3 := h1.2.2.len
        rw [h1.1, List.length_append] at h2
        exact inss_any cap r1 (X.take 20) (X.drop 20) n a b wr (HR.out.re (by rw [List.take_append_drop])) (by rw [List.length_take, List.length_drop]; omega) (by omega) (by rw [List.length_take]; omega) hmax⟩
      have v1 : IntKind.i64.wrap ((b : Int) + 20) = ((b + 20 : Nat) : Int) := by rw [IntKind.wrap_i64]; omega
      have hab2 : a < b := by omega
      clear HR hb
      go_wp2_with fail
      (with_reducible refine HC.out.mono ?_); rintro e w1 ⟨rfl, hR⟩
      have HR2 := Sh.mk hR
      clear hR HC
      go_wp2
      go_roundw
      case measure => simp [intOf]; omega
      case rel => exact ⟨b, b + 20, d1 ++ X.take 20, r1 ++ sortP (X.take 20), X.drop 20, rfl, by first | rfl | go_num, ⟨rfl⟩, hlt, ⟨by
        have hb := HBE.out
        obtain ⟨h1, h2, h3⟩ := HD.out
        exact ⟨by rw [h1, List.append_assoc, List.take_append_drop], by rw [List.length_append, List.length_take]; omega, h3.append (.one _ (by rw [List.length_take]; omega))⟩⟩, ⟨HR2.out.re (by simp)⟩⟩
    · have HC : Sh (Calls Try.prog 72 #[.slice (some ⟨g, 0, none⟩) n cap, .int .i64 a, .int .i64 n, .func (.func 57) #[] #[]] wr fun e w' => e = .returned (.tuple #[]) ∧ Row w0 w' g (r1 ++ sortP X) zs) := ⟨by
        have h1 := HD.out; have h2 := HN.out; have h3 := h1.2.2.len
        rw [h1.1, List.length_append] at h2
        exact (inss_any cap r1 X [] n a n wr (HR.out.re (by simp)) (by simp; omega) (by omega) (by omega) hmax).mono fun e w' h => ⟨h.1, h.2.re (by simp)⟩⟩
      have HD1 : Sh (d = d1 ++ X ∧ X.length < 20 ∧ Chk 20 d1 r1) := ⟨by
        have h1 := HD.out; have h2 := HN.out
        rw [h1.1, List.length_append] at h2
        exact ⟨h1.1, by omega, h1.2.2⟩⟩
      clear HR HD hb
      go_wp2_with fail
      (with_reducible refine HC.out.mono ?_); rintro e w1 ⟨rfl, hR⟩
      have HR2 := Sh.mk hR
      clear hR HC
      go_wp2
      go_loopw [6, 7, 8, 9] (fun sv av bv mv wr => ∃ (bs : Nat) (d1 r1 X : List Pc), sv = .int .i64 bs ∧ 1 ≤ bs ∧ bs ≤ 2000000 ∧ Sh (d = d1 ++ X ∧ X.length < bs ∧ Chk bs d1 r1) ∧ Sh (Row w0 wr g (r1 ++ sortP X) zs)) (fun sv av bv mv _ => n - (intOf sv).toNat)
      case atStart => exact ⟨20, d1, r1, X, rfl, by omega, by omega, HD1, HR2⟩
      case round =>
        clear HD1 HR2
        obtain ⟨bs, d1, r1, X, rfl, hb1, hb2, HD, HR⟩ := hrel
        by_cases hlt : bs < n
        · have v1 : IntKind.i64.wrap (2 * (bs : Int)) = 2 * (bs : Int) := by rw [IntKind.wrap_i64]; omega
          have v2 : IntKind.i64.wrap ((bs : Int) * 2) = (bs : Int) * 2 := by rw [IntKind.wrap_i64]; omega
          go_wp2
          go_loopw [7, 8] (fun av bv wr => ∃ (a b : Nat) (e1 q1 e2 q2 X : List Pc), av = .int .i64 a ∧ bv = .int .i64 b ∧ Sh (b = a + 2 * bs) ∧ a ≤ n ∧ Sh (d = e1 ++ (e2 ++ X) ∧ a = e1.length ∧ Chk (2 * bs) e1 q1 ∧ Chk bs e2 q2 ∧ X.length < bs) ∧ Sh (Row w0 wr g (q1 ++ (q2 ++ sortP X)) zs)) (fun av bv _ => n - (intOf av).toNat)
          case atStart => exact ⟨0, 2 * bs, [], [], d1, r1, X, rfl, by first | rfl | go_num, ⟨by omega⟩, Nat.zero_le _, ⟨⟨HD.out.1, rfl, .nil, HD.out.2.2, HD.out.2.1⟩⟩, HR⟩
          case round =>
            clear HD HR
            obtain ⟨a, b, e1, q1, e2, q2, X, rfl, rfl, HBE, han, HD, HR⟩ := hrel
            have hab := HBE.out
            obtain ⟨q, hq⟩ : ∃ q, q = a + bs := ⟨_, rfl⟩
            have HQ := Sh.mk hq
            by_cases hbn : b ≤ n
            · obtain ⟨Y1, Y2, e3, q3, hY⟩ : ∃ Y1 Y2 e3 q3 : List Pc, e2 = Y1 ++ (Y2 ++ e3) ∧ q2 = sortP Y1 ++ (sortP Y2 ++ q3) ∧ Y1.length = bs ∧ Y2.length = bs ∧ Chk bs e3 q3 := by
                obtain ⟨h1, h2, h3, h4, h5⟩ := HD.out
                have h6 := HN.out
                rw [h1, List.length_append, List.length_append] at h6
                exact h4.two (by omega)
              have HY := Sh.mk hY
              have HC : Sh (Calls Try.prog 73 #[.slice (some ⟨g, 0, none⟩) n cap, .int .i64 a, .int .i64 q, .int .i64 b, .func (.func 57) #[] #[]] wr fun e w' => e = .returned (.tuple #[]) ∧ Row w0 w' g (q1 ++ (sortP (Y1 ++ Y2) ++ (q3 ++ sortP X))) zs) := ⟨by
                obtain ⟨h1, h2, h3, h4, h5⟩ := HD.out
                obtain ⟨g1, g2, g3, g4, g5⟩ := HY.out
                have h6 := HN.out
                have h7 := h3.len
                have h8 := h4.len
                have h9 := g5.len
                rw [h1, List.length_append, List.length_append, g1, List.length_append, List.length_append] at h6
                have key := symm_any (w0 := w0) (g := g) (zs := zs) cap (Y1.length + Y2.length) q1 (sortP Y1) (sortP Y2) (q3 ++ sortP X) (by rw [sortP_length, sortP_length]; omega) n a q b wr (HR.out.re (by rw [g2]; simp)) (sortP_is _).srt (sortP_is _).srt (by rw [sortP_length]; omega) (by rw [sortP_length]; omega) (by rw [sortP_length, sortP_length, List.length_append, sortP_length]; omega) (by omega) (by rw [sortP_length]; omega) (by rw [sortP_length]; omega) hmax
                rw [sortP_two] at key
                exact key⟩
              have v3 : IntKind.i64.wrap ((a : Int) + (bs : Int)) = (q : Int) := by rw [IntKind.wrap_i64]; omega
              have v4 : IntKind.i64.wrap ((b : Int) + 2 * (bs : Int)) = ((b + 2 * bs : Nat) : Int) := by rw [IntKind.wrap_i64]; omega
              have hab2 : a < b := by omega
              clear hY HR hab hq
              go_wp2_with fail
              (with_reducible refine HC.out.mono ?_); rintro e w1 ⟨rfl, hR⟩
              have HR2 := Sh.mk hR
              clear hR HC
              go_wp2
              go_roundw
              case measure => simp [intOf]; omega
              case rel => exact ⟨b, b + 2 * bs, e1 ++ (Y1 ++ Y2), q1 ++ sortP (Y1 ++ Y2), e3, q3, X, rfl, by first | rfl | go_num, ⟨rfl⟩, hbn, ⟨by
                have hab := HBE.out
                obtain ⟨h1, h2, h3, h4, h5⟩ := HD.out
                obtain ⟨g1, g2, g3, g4, g5⟩ := HY.out
                exact ⟨by rw [h1, g1]; simp, by rw [List.length_append, List.length_append]; omega, h3.append (.one _ (by rw [List.length_append]; omega)), g5, h5⟩⟩, ⟨HR2.out.re (by simp)⟩⟩
            · have v3 : IntKind.i64.wrap ((a : Int) + (bs : Int)) = (q : Int) := by rw [IntKind.wrap_i64]; omega
              have hsmall : e2.length ≤ bs := by
                obtain ⟨h1, h2, h3, h4, h5⟩ := HD.out
                have h6 := HN.out
                rw [h1, List.length_append, List.length_append] at h6
                rcases Nat.lt_or_ge bs e2.length with h | h
                · obtain ⟨Y1, Y2, e3, q3, g1, g2, g3, g4, g5⟩ := h4.two h
                  rw [g1, List.length_append, List.length_append] at h6
                  omega
                · exact h
              by_cases hm : q < n
              · have HC : Sh (Calls Try.prog 73 #[.slice (some ⟨g, 0, none⟩) n cap, .int .i64 a, .int .i64 q, .int .i64 n, .func (.func 57) #[] #[]] wr fun e w' => e = .returned (.tuple #[]) ∧ Row w0 w' g (q1 ++ sortP (e2 ++ X)) zs) := ⟨by
                  obtain ⟨h1, h2, h3, h4, h5⟩ := HD.out
                  have h6 := HN.out
                  have h7 := h3.len
                  rw [h1, List.length_append, List.length_append] at h6
                  rcases h4.small hb1 hsmall with ⟨g1, g2⟩ | ⟨g1, g2⟩
                  · subst g1; simp at h6; omega
                  · have key := symm_any (w0 := w0) (g := g) (zs := zs) cap (e2.length + X.length) q1 (sortP e2) (sortP X) [] (by rw [sortP_length, sortP_length]; omega) n a q n wr (HR.out.re (by rw [g2]; simp)) (sortP_is _).srt (sortP_is _).srt (by rw [sortP_length]; omega) (by rw [sortP_length]; omega) (by rw [sortP_length, sortP_length]; simp; omega) (by omega) (by rw [sortP_length]; omega) (by rw [sortP_length]; omega) hmax
                    rw [sortP_two] at key
                    exact key.mono fun e w' h => ⟨h.1, h.2.re (by simp)⟩⟩
                have HD2 : Sh (d = e1 ++ (e2 ++ X) ∧ (e2 ++ X).length < 2 * bs ∧ Chk (2 * bs) e1 q1) := ⟨by
                  obtain ⟨h1, h2, h3, h4, h5⟩ := HD.out
                  exact ⟨h1, by rw [List.length_append]; omega, h3⟩⟩
                have hq2 : q ≤ b := by omega
                clear HR HD hab hq
                go_wp2_with fail
                (with_reducible refine HC.out.mono ?_); rintro e w1 ⟨rfl, hR⟩
                have HR2 := Sh.mk hR
                clear hR HC
                go_wp2
                go_roundw
                case measure => simp [intOf]; omega
                case rel => exact ⟨2 * bs, e1, q1, e2 ++ X, by go_num, by omega, by omega, HD2, HR2⟩
              · have HD2 : Sh (d = e1 ++ (e2 ++ X) ∧ (e2 ++ X).length < 2 * bs ∧ Chk (2 * bs) e1 q1) := ⟨by
                  obtain ⟨h1, h2, h3, h4, h5⟩ := HD.out
                  exact ⟨h1, by rw [List.length_append]; omega, h3⟩⟩
                have HR2 : Sh (Row w0 wr g (q1 ++ sortP (e2 ++ X)) zs) := ⟨by
                  obtain ⟨h1, h2, h3, h4, h5⟩ := HD.out
                  have h6 := HN.out
                  rw [h1, List.length_append, List.length_append] at h6
                  refine HR.out.re ?_
                  rcases h4.small hb1 hsmall with ⟨g1, g2⟩ | ⟨g1, g2⟩
                  · rw [g1, g2]; simp
                  · have : X = [] := List.eq_nil_of_length_eq_zero (by omega)
                    rw [this, g2]
                    simp [sortP, sortF]⟩
                clear HR HD hab hq
                go_wp2
                go_roundw
                case measure => simp [intOf]; omega
                case rel => exact ⟨2 * bs, e1, q1, e2 ++ X, by go_num, by omega, by omega, HD2, HR2⟩
        · have HR2 : Sh (Row w0 wr g (sortP d) zs) := ⟨by
            obtain ⟨h1, h2, h3⟩ := HD.out
            have h6 := HN.out
            rw [h1, List.length_append] at h6
            refine HR.out.re ?_
            rcases h3.small hb1 (by omega) with ⟨g1, g2⟩ | ⟨g1, g2⟩
            · rw [h1, g1, g2]; simp
            · have : X = [] := List.eq_nil_of_length_eq_zero (by omega)
              rw [h1, this, g2]
              simp [sortP, sortF]⟩
          clear HR HD
          go_wp2
          go_end0
          exact ⟨rfl, HR2.out⟩

set_option maxRecDepth 100000 in
theorem sortStable_any (cap : Nat) (d : List Pc) (n : Nat) (w : World) (hrow : Row w0 w g d zs) (hn : n = d.length) (hmax : n ≤ 1000000) :
    Calls Try.prog 56 #[.slice (some ⟨g, 0, none⟩) n cap, .func (.func 57) #[] #[]] w fun e w' => e = .returned (.tuple #[]) ∧ Row w0 w' g (sortP d) zs := by
  have HC := Sh.mk (stable_any cap d n w hrow hn hmax)
  clear hrow hn hmax
  go_enter Try.func56, Try.ntmps56
  go_wp2_with fail
  (with_reducible refine HC.out.mono ?_); rintro e w1 ⟨rfl, hR⟩
  have HR2 := Sh.mk hR
  clear hR HC
  go_wp2
  go_end0
  exact ⟨rfl, HR2.out⟩
end Go.Proofs.Ythbknmblehecaaa
