/- A pool in plain lists: spans by their pages, each with its free stacks in their order. No statement is proved here. -/
import Derived.Test.YtmmpdpnonnjadaaESize
import Derived.Test.YtmmpdpnonnjadaaEWalk
namespace Go.Proofs.Ytmmpdpnonnjadaa
set_option linter.unusedVariables false
set_option linter.unusedSimpArgs false
open Go.RowKit Go.Proofs.YtmmpdpnonnjadaaW.PrintWords Go.Proofs.YtmmpdpnonnjadaaW.PrintLast Go.Proofs.YtmmpdpnonnjadaaW.PrintMore Pr

/-- A span: its first page, its free stacks, the chain's first one first. -/
structure Pt where
  page : Int
  free : List Int
def adr (c page : Int) (k : Nat) : Int := page * 64 + (k : Int) * wdC c
def allF (c page : Int) : List Int := (List.range (perC c)).map (adr c page)
def hd : List Int → Int
  | [] => 0
  | x :: _ => x + 1
/-- The words hold the chain. -/
def Chn (M : List Int) : List Int → Prop
  | [] => True
  | x :: l => (0 ≤ x ∧ x < M.length ∧ rd0 M x.toNat = hd l) ∧ Chn M l
def FitP (c : Int) (N : Nat) (p : Pt) : Prop := 0 ≤ p.page ∧ p.page + 8 ≤ N ∧ p.free.Nodup ∧ ∀ x ∈ p.free, ∃ k, k < perC c ∧ x = adr c p.page k
def Good (c : Int) (N : Nat) (L : List Pt) : Prop := (∀ p ∈ L, FitP c N p) ∧ L.Pairwise (fun p q => p.page + 8 ≤ q.page)
def takeP : List Pt → Option (List Pt × Int)
  | [] => none
  | p :: L => match p.free with
    | x :: l => some (⟨p.page, l⟩ :: L, x)
    | [] => match takeP L with
      | some r => some (p :: r.1, r.2)
      | none => none
def hit (c page a : Int) : Bool := decide (page * 64 ≤ a ∧ a < page * 64 + 512 ∧ (a - page * 64) % wdC c = 0)
def putP (c : Int) : List Pt → Int → List Pt × Int × Bool × Int
  | [], _ => ([], 0, false, 1)
  | p :: L, a => if hit c p.page a = true then (if a ∈ p.free then (p :: L, 0, false, 4) else if p.free.length + 1 = perC c then (L, p.page, true, 0) else (⟨p.page, a :: p.free⟩ :: L, p.page, false, 0)) else (p :: (putP c L a).1, (putP c L a).2)
def overP (L : List Pt) (page : Int) : Bool := L.any (fun p => decide (p.page < page + 8 ∧ page < p.page + 8))
def insP (c : Int) : List Pt → Int → List Pt
  | [], pg => [⟨pg, allF c pg⟩]
  | p :: L, pg => if p.page < pg then p :: insP c L pg else ⟨pg, allF c pg⟩ :: p :: L
def addP (c : Int) (N : Nat) (L : List Pt) (page : Int) : List Pt × Int := if page < 0 ∨ (N : Int) - 8 < page then (L, 1) else if overP L page = true then (L, 4) else (insP c L page, 0)

theorem nodup_len : ∀ (n : Nat) (l : List Nat), l.Nodup → (∀ x ∈ l, x < n) → l.length ≤ n := by
  intro n
  induction n with
  | zero =>
    intro l _ h
    cases l with
    | nil => simp
    | cons x l => exact absurd (h x (by simp)) (by omega)
  | succ n ih =>
    intro l hn h
    by_cases hm : n ∈ l
    · have h1 := ih (l.erase n) (hn.erase n) (fun x hx => by
        have h2 := (hn.mem_erase_iff).1 hx
        have := h x h2.2
        have := h2.1
        omega)
      rw [List.length_erase_of_mem hm] at h1
      omega
    · have h1 := ih l hn (fun x hx => by
        have := h x hx
        have : x ≠ n := fun e => hm (e ▸ hx)
        omega)
      omega
section
variable {c : Int} {N : Nat} (hc : 0 ≤ c ∧ c ≤ 3)
include hc
theorem adr_inj {page : Int} {j k : Nat} (h : adr c page j = adr c page k) : j = k := by
  unfold adr at h
  rcases cls_cases hc with ⟨_, h1, _⟩ | ⟨_, h1, _⟩ | ⟨_, h1, _⟩ | ⟨_, h1, _⟩ <;> rw [h1] at h <;> omega
theorem adr_in {page : Int} {k : Nat} (hk : k < perC c) : page * 64 ≤ adr c page k ∧ adr c page k + wdC c ≤ page * 64 + 512 := by
  unfold adr
  rcases cls_cases hc with ⟨_, h1, h2⟩ | ⟨_, h1, h2⟩ | ⟨_, h1, h2⟩ | ⟨_, h1, h2⟩ <;> rw [h1] <;> rw [h2] at hk <;> omega
theorem hit_adr {page : Int} {k : Nat} (hk : k < perC c) : hit c page (adr c page k) = true := by
  have h := adr_in hc (page := page) hk
  unfold hit
  rw [decide_eq_true_eq]
  unfold adr at h ⊢
  rcases cls_cases hc with ⟨_, h1, h2⟩ | ⟨_, h1, h2⟩ | ⟨_, h1, h2⟩ | ⟨_, h1, h2⟩ <;> rw [h1] at h ⊢ <;> omega
theorem hit_get {page a : Int} (h : hit c page a = true) : ∃ k, k < perC c ∧ a = adr c page k := by
  unfold hit at h
  rw [decide_eq_true_eq] at h
  refine ⟨((a - page * 64) / wdC c).toNat, ?_, ?_⟩
  · rcases cls_cases hc with ⟨_, h1, h2⟩ | ⟨_, h1, h2⟩ | ⟨_, h1, h2⟩ | ⟨_, h1, h2⟩ <;> rw [h1] at h ⊢ <;> rw [h2] <;> omega
  · unfold adr
    rcases cls_cases hc with ⟨_, h1, h2⟩ | ⟨_, h1, h2⟩ | ⟨_, h1, h2⟩ | ⟨_, h1, h2⟩ <;> rw [h1] at h ⊢ <;> omega
theorem hit_iff {page a : Int} : hit c page a = true ↔ ∃ k, k < perC c ∧ a = adr c page k := ⟨fun h => hit_get hc h, fun ⟨k, hk, h⟩ => h ▸ hit_adr hc hk⟩
theorem free_bd {p : Pt} (h : FitP c N p) {x : Int} (hx : x ∈ p.free) : p.page * 64 ≤ x ∧ x < p.page * 64 + 512 ∧ 0 ≤ x ∧ x < N * 64 := by
  obtain ⟨h1, h2, h3, h4⟩ := h
  obtain ⟨k, hk, rfl⟩ := h4 x hx
  have h5 := adr_in hc (page := p.page) hk
  have h6 : 32 ≤ wdC c := by rcases cls_cases hc with h | h | h | h <;> omega
  omega
omit hc in
/-- Free stacks are no more than there are. -/
theorem free_len {page : Int} {l : List Int} (hn : l.Nodup) (h : ∀ x ∈ l, ∃ k, k < perC c ∧ x = adr c page k) : l.length ≤ perC c := by
  have h1 : ∀ (l : List Int), (∀ x ∈ l, ∃ k, k < perC c ∧ x = adr c page k) → ∃ m : List Nat, l = m.map (adr c page) ∧ ∀ x ∈ m, x < perC c := by
    intro l
    induction l with
    | nil => intro _; exact ⟨[], rfl, by simp⟩
    | cons x l ih =>
      intro h
      obtain ⟨m, hm, hb⟩ := ih (fun y hy => h y (by simp [hy]))
      obtain ⟨k, hk, hx⟩ := h x (by simp)
      exact ⟨k :: m, by rw [hm, hx]; rfl, fun y hy => by
        rcases List.mem_cons.1 hy with rfl | hy
        · exact hk
        · exact hb y hy⟩
  obtain ⟨m, rfl, hb⟩ := h1 l h
  rw [List.length_map]
  refine nodup_len _ m ?_ hb
  exact (List.pairwise_map.1 hn).imp (fun h e => h (by rw [e]))
omit hc in
theorem fit_len {p : Pt} (h : FitP c N p) : p.free.length ≤ perC c := free_len h.2.2.1 h.2.2.2
theorem all_fit {page : Int} (h0 : 0 ≤ page) (h1 : page + 8 ≤ N) : FitP c N ⟨page, allF c page⟩ := by
  refine ⟨h0, h1, ?_, fun x hx => ?_⟩
  · show List.Pairwise _ _
    unfold allF
    rw [List.pairwise_map]
    exact (List.nodup_range).imp (fun h e => h (adr_inj hc e))
  · obtain ⟨k, hk, rfl⟩ := List.mem_map.1 hx
    exact ⟨k, List.mem_range.1 hk, rfl⟩
/-- Spans apart have no address in common. -/
theorem apart_free {p q : Pt} (hp : FitP c N p) (hq : FitP c N q) (h : p.page + 8 ≤ q.page ∨ q.page + 8 ≤ p.page) {x : Int} (hx : x ∈ p.free) : x ∉ q.free := fun hy => by
  have h1 := free_bd hc hp hx
  have h2 := free_bd hc hq hy
  omega
omit hc in
theorem hit_bd {page a : Int} (h : hit c page a = true) : page * 64 ≤ a ∧ a < page * 64 + 512 := by
  unfold hit at h; rw [decide_eq_true_eq] at h; exact ⟨h.1, h.2.1⟩
end
theorem Good.cons {c : Int} {N : Nat} {p : Pt} {L : List Pt} (h : Good c N (p :: L)) : FitP c N p ∧ Good c N L ∧ ∀ q ∈ L, p.page + 8 ≤ q.page := by
  have := List.pairwise_cons.1 h.2
  exact ⟨h.1 p (by simp), ⟨fun q hq => h.1 q (by simp [hq]), this.2⟩, this.1⟩
theorem Good.mk_cons {c : Int} {N : Nat} {p : Pt} {L : List Pt} (h1 : FitP c N p) (h2 : Good c N L) (h3 : ∀ q ∈ L, p.page + 8 ≤ q.page) : Good c N (p :: L) :=
  ⟨fun q hq => by
    rcases List.mem_cons.1 hq with rfl | hq
    · exact h1
    · exact h2.1 q hq, List.pairwise_cons.2 ⟨h3, h2.2⟩⟩
theorem Good.mid {c : Int} {N : Nat} {a b : List Pt} {p : Pt} (h : Good c N (a ++ p :: b)) : FitP c N p ∧ (∀ q ∈ a, q.page + 8 ≤ p.page) ∧ (∀ q ∈ b, p.page + 8 ≤ q.page) ∧ Good c N (a ++ b) := by
  have h2 := List.pairwise_append.1 h.2
  have h3 := List.pairwise_cons.1 h2.2.1
  exact ⟨h.1 p (by simp), fun q hq => h2.2.2 q hq p (by simp), h3.1, ⟨fun q hq => h.1 q (by simp at hq ⊢; rcases hq with hq | hq <;> simp [hq]), List.pairwise_append.2 ⟨h2.1, h3.2, fun x hx y hy => h2.2.2 x hx y (by simp [hy])⟩⟩⟩
theorem Good.put_mid {c : Int} {N : Nat} {a b : List Pt} {p : Pt} (h : Good c N (a ++ b)) (hp : FitP c N p) (h1 : ∀ q ∈ a, q.page + 8 ≤ p.page) (h2 : ∀ q ∈ b, p.page + 8 ≤ q.page) : Good c N (a ++ p :: b) := by
  have h3 := List.pairwise_append.1 h.2
  refine ⟨fun q hq => ?_, List.pairwise_append.2 ⟨h3.1, List.pairwise_cons.2 ⟨h2, h3.2.1⟩, fun x hx y hy => ?_⟩⟩
  · rcases List.mem_append.1 hq with hq | hq
    · exact h.1 q (by simp [hq])
    · rcases List.mem_cons.1 hq with rfl | hq
      · exact hp
      · exact h.1 q (by simp [hq])
  · rcases List.mem_cons.1 hy with rfl | hy
    · exact h1 x hx
    · exact h3.2.2 x hx y hy
theorem Good.app {c : Int} {N : Nat} {a b : List Pt} (h : Good c N (a ++ b)) : Good c N b := ⟨fun q hq => h.1 q (by simp [hq]), (List.pairwise_append.1 h.2).2.1⟩
/-- So many spans have so many pages. -/
theorem Good.len {c : Int} {N : Nat} {L : List Pt} (h : Good c N L) : L.length * 8 ≤ N := by
  have key : ∀ (L : List Pt) (a : Int), (∀ p ∈ L, a ≤ p.page ∧ p.page + 8 ≤ N) → L.Pairwise (fun p q => p.page + 8 ≤ q.page) → 0 ≤ a → a ≤ N → a + 8 * (L.length : Int) ≤ N := by
    intro L
    induction L with
    | nil => intro a _ _ h0 h1; simp; omega
    | cons p L ih =>
      intro a h1 h2 h0 hN
      have h3 := List.pairwise_cons.1 h2
      have h4 := h1 p (by simp)
      have h5 := ih (p.page + 8) (fun q hq => ⟨h3.1 q hq, (h1 q (by simp [hq])).2⟩) h3.2 (by omega) (by omega)
      simp only [List.length_cons]
      omega
  have := key L 0 (fun p hp => ⟨(h.1 p hp).1, (h.1 p hp).2.1⟩) h.2 (by omega) (by omega)
  omega
/-! ### chains -/
theorem Chn_set {M : List Int} {l : List Int} (h : Chn M l) {a : Int} (ha : 0 ≤ a) (hn : a ∉ l) (v : Int) : Chn (M.set a.toNat v) l := by
  induction l with
  | nil => trivial
  | cons x l ih =>
    obtain ⟨⟨h1, h2, h3⟩, h4⟩ := h
    refine ⟨⟨h1, by rw [List.length_set]; exact h2, ?_⟩, ih h4 (fun hm => hn (by simp [hm]))⟩
    rw [rd0_set, if_neg, h3]
    rintro ⟨e, _⟩
    exact hn (by rw [show a = x by omega]; simp)
theorem Chn_push {M : List Int} {l : List Int} (h : Chn M l) {a : Int} (ha : 0 ≤ a) (hb : a < M.length) (hn : a ∉ l) : Chn (M.set a.toNat (hd l)) (a :: l) :=
  ⟨⟨ha, by rw [List.length_set]; exact hb, by rw [rd0_set, if_pos ⟨rfl, by omega⟩]⟩, Chn_set h ha hn _⟩
theorem hd_bd {M : List Int} {l : List Int} (h : Chn M l) : 0 ≤ hd l ∧ hd l ≤ M.length := by
  cases l with
  | nil => simp [hd]
  | cons x l => obtain ⟨⟨h1, h2, _⟩, _⟩ := h; simp only [hd]; omega
theorem hd_pos {M : List Int} {l : List Int} (h : Chn M l) : hd l = 0 ↔ l = [] := by
  cases l with
  | nil => simp [hd]
  | cons x l => obtain ⟨⟨h1, h2, _⟩, _⟩ := h; simp only [hd]; constructor <;> intro h <;> first | omega | cases h
/-- A pop takes the first. -/
theorem popS_chn {M : List Int} {x : Int} {l : List Int} (h : Chn M (x :: l)) (hM : M.length ≤ 16384) : popS M (x + 1) = (x, hd l, 0) := by
  obtain ⟨⟨h1, h2, h3⟩, h4⟩ := h
  have h5 := hd_bd h4
  unfold popS
  rw [if_neg (by omega), if_neg (by omega), if_neg (by omega), show (x + 1 - 1).toNat = x.toNat by omega, h3, if_neg (by omega)]
  have : wrap64 (hd l) = hd l := by unfold wrap64; omega
  rw [this]
  simp
/-- A push has it ahead. -/
theorem pushS_chn {M : List Int} {l : List Int} (h : Chn M l) {a : Int} (ha : 0 ≤ a) (hb : a < M.length) : pushS M (hd l) a = (M.set a.toNat (hd l), a + 1, 0) := by
  have h5 := hd_bd h
  unfold pushS
  rw [if_neg (by omega), if_neg (by omega)]
/-- A walk tells all. -/
theorem walkS_chn {M : List Int} (hM : M.length ≤ 16384) : ∀ (l : List Int) (n : Nat) (out : List Int), Chn M l → l.length ≤ n → walkS M n (hd l) out = (out ++ l, 0) := by
  intro l
  induction l with
  | nil => intro n out _ _; simp [hd, walkS_zero]
  | cons x l ih =>
    intro n out h hn
    cases n with
    | zero => simp at hn
    | succ n =>
      have h0 := h.1
      show (if x + 1 = 0 then (out, 0) else if (popS M (x + 1)).2.2 = 0 then walkS M n (popS M (x + 1)).2.1 (out ++ [(popS M (x + 1)).1]) else ([], 6)) = _
      rw [if_neg (by omega), popS_chn h hM, if_pos rfl, ih n _ h.2 (by simp at hn; omega)]
      simp
theorem walkT_chn {M : List Int} (hM : M.length ≤ 16384) {l : List Int} {n : Int} (h : Chn M l) (hn : l.length ≤ n.toNat) : walkT M (hd l) n = (l, 0) := by
  have := hd_bd h
  unfold walkT
  rw [if_neg (by omega), walkS_chn hM l _ _ h hn]
  rfl
end Go.Proofs.Ytmmpdpnonnjadaa
