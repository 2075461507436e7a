/-
  No cell of these rows narrows 'for every input' (looked for: loops, veiled, ifaces, maps, wideKeys, modest, calm, conditions, laid).
  DERIVED. THE GIVEN ROWS OF THIS SEAT. 12 by the template 'for every input the law returns true; each argument reads behind the call as it read before'; 0 by the template 'total and deterministic' (their statements: YtncmebefgklpjaaTotals.lean).
  GIVEN WITH THE SEED: the statements are not yours to turn. If you find one false, say at which input.
  Laid BY PROGRAM, IN A SANDBOX (cutbox-rows.mjs): the forced cells as the released guide's own fill.sh prints them over the translation 133e4ff4b8103076… (all of the seat's roots in one cut). By AI agents, Wed Nov 11 2026. No macro, syntax, notation, axiom, sorry.
-/
import Derived.Test.YtncmebefgklpjaaChecked
import GoSem.Claim
import GoSem.ClaimJoined
import GoSem.ClaimMapViews
import Derived.JoinedTies
import Derived.KernelRfl
namespace Go.Proofs.Ytncmebefgklpjaa
/- THE CELL 'sum', in the pinned program and in every row, IS THE sha256 OF THE DUMP (.gsa) THAT YtncmebefgklpjaaProg.lean LOADS. Nothing in Lean hashes anything: it is a label: what it is worth is what the hold of that sum in a sandbox is worth. -/
noncomputable def Try.pinned : Pinned := { name := "ytncmebefgklpjaa", sum := "133e4ff4b8103076245d0408d8ade4e74d82aa18c9727d0f1d174a20c03577b9", checked := Try.checked }
namespace Rows
def none {H : Type} : Left H := { results := [], args := [] }

/-- 'rickyardlaw3.ArenaCopies': WHATEVER THE INPUT: true; the input reads as it did. -/
def arenaCopiesSpec : ChangeSpec := { name := "arenaCopies", fn := fun _ => fun
  | [d1, d2, d3, d4] => { results := [.lit (.bool true)], args := [d1, d2, d3, d4] }
  | _ => none }
def arenaCopiesRow : OpenClaim := { program := "ytncmebefgklpjaa", sum := "133e4ff4b8103076245d0408d8ade4e74d82aa18c9727d0f1d174a20c03577b9", func := "rickyard/rickyardlaw3.ArenaCopies", spec := "arenaCopies", apart := false }
def ArenaCopiesSaid : Prop := arenaCopiesRow.holds Try.pinned (OpenSpec.ofChange arenaCopiesSpec)

/-- ITS FALSE NEIGHBOUR: 'it returns false'. Refute it at one input. -/
def arenaCopiesWrong : ChangeSpec := { name := "arenaCopies", fn := fun _ => fun
  | [d1, d2, d3, d4] => { results := [.lit (.bool false)], args := [d1, d2, d3, d4] }
  | _ => none }
def ArenaCopiesWrongFalsely : Prop := arenaCopiesRow.holds Try.pinned (OpenSpec.ofChange arenaCopiesWrong)

/-- 'rickyardlaw3.ArenaRuns': WHATEVER THE INPUT: true; the input reads as it did. -/
def arenaRunsSpec : ChangeSpec := { name := "arenaRuns", fn := fun _ => fun
  | [d1, d2] => { results := [.lit (.bool true)], args := [d1, d2] }
  | _ => none }
def arenaRunsRow : OpenClaim := { program := "ytncmebefgklpjaa", sum := "133e4ff4b8103076245d0408d8ade4e74d82aa18c9727d0f1d174a20c03577b9", func := "rickyard/rickyardlaw3.ArenaRuns", spec := "arenaRuns", apart := false }
def ArenaRunsSaid : Prop := arenaRunsRow.holds Try.pinned (OpenSpec.ofChange arenaRunsSpec)

/-- ITS FALSE NEIGHBOUR: 'it returns false'. Refute it at one input. -/
def arenaRunsWrong : ChangeSpec := { name := "arenaRuns", fn := fun _ => fun
  | [d1, d2] => { results := [.lit (.bool false)], args := [d1, d2] }
  | _ => none }
def ArenaRunsWrongFalsely : Prop := arenaRunsRow.holds Try.pinned (OpenSpec.ofChange arenaRunsWrong)

/-- 'rickyardlaw3.ArenaRaw': WHATEVER THE INPUT: true; the input reads as it did. -/
def arenaRawSpec : ChangeSpec := { name := "arenaRaw", fn := fun _ => fun
  | [d1, d2, d3, d4, d5] => { results := [.lit (.bool true)], args := [d1, d2, d3, d4, d5] }
  | _ => none }
def arenaRawRow : OpenClaim := { program := "ytncmebefgklpjaa", sum := "133e4ff4b8103076245d0408d8ade4e74d82aa18c9727d0f1d174a20c03577b9", func := "rickyard/rickyardlaw3.ArenaRaw", spec := "arenaRaw", apart := false }
def ArenaRawSaid : Prop := arenaRawRow.holds Try.pinned (OpenSpec.ofChange arenaRawSpec)

/-- ITS FALSE NEIGHBOUR: 'it returns false'. Refute it at one input. -/
def arenaRawWrong : ChangeSpec := { name := "arenaRaw", fn := fun _ => fun
  | [d1, d2, d3, d4, d5] => { results := [.lit (.bool false)], args := [d1, d2, d3, d4, d5] }
  | _ => none }
def ArenaRawWrongFalsely : Prop := arenaRawRow.holds Try.pinned (OpenSpec.ofChange arenaRawWrong)

/-- 'rickyardlaw3.ArenaBack': WHATEVER THE INPUT: true; the input reads as it did. -/
def arenaBackSpec : ChangeSpec := { name := "arenaBack", fn := fun _ => fun
  | [d1, d2, d3, d4, d5, d6] => { results := [.lit (.bool true)], args := [d1, d2, d3, d4, d5, d6] }
  | _ => none }
def arenaBackRow : OpenClaim := { program := "ytncmebefgklpjaa", sum := "133e4ff4b8103076245d0408d8ade4e74d82aa18c9727d0f1d174a20c03577b9", func := "rickyard/rickyardlaw3.ArenaBack", spec := "arenaBack", apart := false }
def ArenaBackSaid : Prop := arenaBackRow.holds Try.pinned (OpenSpec.ofChange arenaBackSpec)

/-- ITS FALSE NEIGHBOUR: 'it returns false'. Refute it at one input. -/
def arenaBackWrong : ChangeSpec := { name := "arenaBack", fn := fun _ => fun
  | [d1, d2, d3, d4, d5, d6] => { results := [.lit (.bool false)], args := [d1, d2, d3, d4, d5, d6] }
  | _ => none }
def ArenaBackWrongFalsely : Prop := arenaBackRow.holds Try.pinned (OpenSpec.ofChange arenaBackWrong)

/-- 'rickyardlaw3.ArenaOwn': WHATEVER THE INPUT: true; the input reads as it did. -/
def arenaOwnSpec : ChangeSpec := { name := "arenaOwn", fn := fun _ => fun
  | [d1, d2, d3, d4] => { results := [.lit (.bool true)], args := [d1, d2, d3, d4] }
  | _ => none }
def arenaOwnRow : OpenClaim := { program := "ytncmebefgklpjaa", sum := "133e4ff4b8103076245d0408d8ade4e74d82aa18c9727d0f1d174a20c03577b9", func := "rickyard/rickyardlaw3.ArenaOwn", spec := "arenaOwn", apart := false }
def ArenaOwnSaid : Prop := arenaOwnRow.holds Try.pinned (OpenSpec.ofChange arenaOwnSpec)

/-- ITS FALSE NEIGHBOUR: 'it returns false'. Refute it at one input. -/
def arenaOwnWrong : ChangeSpec := { name := "arenaOwn", fn := fun _ => fun
  | [d1, d2, d3, d4] => { results := [.lit (.bool false)], args := [d1, d2, d3, d4] }
  | _ => none }
def ArenaOwnWrongFalsely : Prop := arenaOwnRow.holds Try.pinned (OpenSpec.ofChange arenaOwnWrong)

/-- 'rickyardlaw3.ArenaNone': WHATEVER THE INPUT: true; the input reads as it did. -/
def arenaNoneSpec : ChangeSpec := { name := "arenaNone", fn := fun _ => fun
  | [d1, d2, d3, d4] => { results := [.lit (.bool true)], args := [d1, d2, d3, d4] }
  | _ => none }
def arenaNoneRow : OpenClaim := { program := "ytncmebefgklpjaa", sum := "133e4ff4b8103076245d0408d8ade4e74d82aa18c9727d0f1d174a20c03577b9", func := "rickyard/rickyardlaw3.ArenaNone", spec := "arenaNone", apart := false }
def ArenaNoneSaid : Prop := arenaNoneRow.holds Try.pinned (OpenSpec.ofChange arenaNoneSpec)

/-- ITS FALSE NEIGHBOUR: 'it returns false'. Refute it at one input. -/
def arenaNoneWrong : ChangeSpec := { name := "arenaNone", fn := fun _ => fun
  | [d1, d2, d3, d4] => { results := [.lit (.bool false)], args := [d1, d2, d3, d4] }
  | _ => none }
def ArenaNoneWrongFalsely : Prop := arenaNoneRow.holds Try.pinned (OpenSpec.ofChange arenaNoneWrong)

/-- 'rickyardlaw9.ChainRuns': WHATEVER THE INPUT: true; the input reads as it did. -/
def chainRunsSpec : ChangeSpec := { name := "chainRuns", fn := fun _ => fun
  | [d1, d2] => { results := [.lit (.bool true)], args := [d1, d2] }
  | _ => none }
def chainRunsRow : OpenClaim := { program := "ytncmebefgklpjaa", sum := "133e4ff4b8103076245d0408d8ade4e74d82aa18c9727d0f1d174a20c03577b9", func := "rickyard/rickyardlaw9.ChainRuns", spec := "chainRuns", apart := false }
def ChainRunsSaid : Prop := chainRunsRow.holds Try.pinned (OpenSpec.ofChange chainRunsSpec)

/-- ITS FALSE NEIGHBOUR: 'it returns false'. Refute it at one input. -/
def chainRunsWrong : ChangeSpec := { name := "chainRuns", fn := fun _ => fun
  | [d1, d2] => { results := [.lit (.bool false)], args := [d1, d2] }
  | _ => none }
def ChainRunsWrongFalsely : Prop := chainRunsRow.holds Try.pinned (OpenSpec.ofChange chainRunsWrong)

/-- 'rickyardlaw9.ChainBack': WHATEVER THE INPUT: true; the input reads as it did. -/
def chainBackSpec : ChangeSpec := { name := "chainBack", fn := fun _ => fun
  | [d1, d2] => { results := [.lit (.bool true)], args := [d1, d2] }
  | _ => none }
def chainBackRow : OpenClaim := { program := "ytncmebefgklpjaa", sum := "133e4ff4b8103076245d0408d8ade4e74d82aa18c9727d0f1d174a20c03577b9", func := "rickyard/rickyardlaw9.ChainBack", spec := "chainBack", apart := false }
def ChainBackSaid : Prop := chainBackRow.holds Try.pinned (OpenSpec.ofChange chainBackSpec)

/-- ITS FALSE NEIGHBOUR: 'it returns false'. Refute it at one input. -/
def chainBackWrong : ChangeSpec := { name := "chainBack", fn := fun _ => fun
  | [d1, d2] => { results := [.lit (.bool false)], args := [d1, d2] }
  | _ => none }
def ChainBackWrongFalsely : Prop := chainBackRow.holds Try.pinned (OpenSpec.ofChange chainBackWrong)

/-- 'rickyardlaw9.ChainTwo': WHATEVER THE INPUT: true; the input reads as it did. -/
def chainTwoSpec : ChangeSpec := { name := "chainTwo", fn := fun _ => fun
  | [d1, d2] => { results := [.lit (.bool true)], args := [d1, d2] }
  | _ => none }
def chainTwoRow : OpenClaim := { program := "ytncmebefgklpjaa", sum := "133e4ff4b8103076245d0408d8ade4e74d82aa18c9727d0f1d174a20c03577b9", func := "rickyard/rickyardlaw9.ChainTwo", spec := "chainTwo", apart := false }
def ChainTwoSaid : Prop := chainTwoRow.holds Try.pinned (OpenSpec.ofChange chainTwoSpec)

/-- ITS FALSE NEIGHBOUR: 'it returns false'. Refute it at one input. -/
def chainTwoWrong : ChangeSpec := { name := "chainTwo", fn := fun _ => fun
  | [d1, d2] => { results := [.lit (.bool false)], args := [d1, d2] }
  | _ => none }
def ChainTwoWrongFalsely : Prop := chainTwoRow.holds Try.pinned (OpenSpec.ofChange chainTwoWrong)

/-- 'rickyardlaw9.ChainRaw': WHATEVER THE INPUT: true; the input reads as it did. -/
def chainRawSpec : ChangeSpec := { name := "chainRaw", fn := fun _ => fun
  | [d1, d2, d3, d4] => { results := [.lit (.bool true)], args := [d1, d2, d3, d4] }
  | _ => none }
def chainRawRow : OpenClaim := { program := "ytncmebefgklpjaa", sum := "133e4ff4b8103076245d0408d8ade4e74d82aa18c9727d0f1d174a20c03577b9", func := "rickyard/rickyardlaw9.ChainRaw", spec := "chainRaw", apart := false }
def ChainRawSaid : Prop := chainRawRow.holds Try.pinned (OpenSpec.ofChange chainRawSpec)

/-- ITS FALSE NEIGHBOUR: 'it returns false'. Refute it at one input. -/
def chainRawWrong : ChangeSpec := { name := "chainRaw", fn := fun _ => fun
  | [d1, d2, d3, d4] => { results := [.lit (.bool false)], args := [d1, d2, d3, d4] }
  | _ => none }
def ChainRawWrongFalsely : Prop := chainRawRow.holds Try.pinned (OpenSpec.ofChange chainRawWrong)

/-- 'rickyardlaw9.ChainWalk': WHATEVER THE INPUT: true; the input reads as it did. -/
def chainWalkSpec : ChangeSpec := { name := "chainWalk", fn := fun _ => fun
  | [d1, d2, d3, d4] => { results := [.lit (.bool true)], args := [d1, d2, d3, d4] }
  | _ => none }
def chainWalkRow : OpenClaim := { program := "ytncmebefgklpjaa", sum := "133e4ff4b8103076245d0408d8ade4e74d82aa18c9727d0f1d174a20c03577b9", func := "rickyard/rickyardlaw9.ChainWalk", spec := "chainWalk", apart := false }
def ChainWalkSaid : Prop := chainWalkRow.holds Try.pinned (OpenSpec.ofChange chainWalkSpec)

/-- ITS FALSE NEIGHBOUR: 'it returns false'. Refute it at one input. -/
def chainWalkWrong : ChangeSpec := { name := "chainWalk", fn := fun _ => fun
  | [d1, d2, d3, d4] => { results := [.lit (.bool false)], args := [d1, d2, d3, d4] }
  | _ => none }
def ChainWalkWrongFalsely : Prop := chainWalkRow.holds Try.pinned (OpenSpec.ofChange chainWalkWrong)

/-- 'rickyardlaw9.ChainNone': WHATEVER THE INPUT: true; the input reads as it did. -/
def chainNoneSpec : ChangeSpec := { name := "chainNone", fn := fun _ => fun
  | [d1, d2, d3, d4] => { results := [.lit (.bool true)], args := [d1, d2, d3, d4] }
  | _ => none }
def chainNoneRow : OpenClaim := { program := "ytncmebefgklpjaa", sum := "133e4ff4b8103076245d0408d8ade4e74d82aa18c9727d0f1d174a20c03577b9", func := "rickyard/rickyardlaw9.ChainNone", spec := "chainNone", apart := false }
def ChainNoneSaid : Prop := chainNoneRow.holds Try.pinned (OpenSpec.ofChange chainNoneSpec)

/-- ITS FALSE NEIGHBOUR: 'it returns false'. Refute it at one input. -/
def chainNoneWrong : ChangeSpec := { name := "chainNone", fn := fun _ => fun
  | [d1, d2, d3, d4] => { results := [.lit (.bool false)], args := [d1, d2, d3, d4] }
  | _ => none }
def ChainNoneWrongFalsely : Prop := chainNoneRow.holds Try.pinned (OpenSpec.ofChange chainNoneWrong)

/- THE SECOND FORM. 'bulk': how many values and letters a reading holds, each counted each time it is reached (what is shared counts as often as it is met; a slice's spare places count too). A statement '..UptoSaid' is the law's where the arguments, and the package variables that the reading takes, are together of bulk at most 1048576: NARROWER than '..Said'. Prove '..Said' where nothing that the law and all that it calls make is longer than what came in: it says more and counts as full. Else prove '..UptoSaid'. A law counts once. -/
mutual
def uptoBulk {H : Type} : DataW H → Nat
  | .lit (.string bytes) => bytes.length + 1
  | .lit _ => 1
  | .nil => 1
  | .ptr d => uptoBulk d + 1
  | .slice elems spare => uptoBulkAll elems + uptoBulkAll spare + 1
  | .agg parts => uptoBulkAll parts + 1
  | .iface _ d => uptoBulk d + 1
  | .map entries => uptoBulkEntries entries + 1
  | .held _ => 1
def uptoBulkAll {H : Type} : List (DataW H) → Nat
  | [] => 0
  | d :: r => uptoBulk d + uptoBulkAll r
def uptoBulkEntries {H : Type} : List (Lit × DataW H) → Nat
  | [] => 0
  | x :: r => uptoBulkEntry x + uptoBulkEntries r
def uptoBulkEntry {H : Type} : Lit × DataW H → Nat
  | (.string bytes, d) => bytes.length + uptoBulk d + 1
  | (_, d) => uptoBulk d + 1
 end
def uptoSmall : (H : Type) → List (DataW H) → Bool := fun _ ds => decide (uptoBulkAll ds ≤ 1048576)
def OpenSpec.upto (s : _root_.Go.ChangeSpec) : _root_.Go.OpenSpec := { _root_.Go.OpenSpec.ofChange s with cond := some uptoSmall }

/-- 'rickyardlaw3.ArenaCopies', WHERE WHAT IT READS IS OF BULK AT MOST 1048576: true; the input reads as it did. -/
def arenaCopiesUptoRow : OpenClaim := { program := "ytncmebefgklpjaa", sum := "133e4ff4b8103076245d0408d8ade4e74d82aa18c9727d0f1d174a20c03577b9", func := "rickyard/rickyardlaw3.ArenaCopies", spec := "arenaCopies", apart := false, narrowed := true }
def ArenaCopiesUptoSaid : Prop := arenaCopiesUptoRow.holds Try.pinned (OpenSpec.upto arenaCopiesSpec)

/-- 'rickyardlaw3.ArenaRuns', WHERE WHAT IT READS IS OF BULK AT MOST 1048576: true; the input reads as it did. -/
def arenaRunsUptoRow : OpenClaim := { program := "ytncmebefgklpjaa", sum := "133e4ff4b8103076245d0408d8ade4e74d82aa18c9727d0f1d174a20c03577b9", func := "rickyard/rickyardlaw3.ArenaRuns", spec := "arenaRuns", apart := false, narrowed := true }
def ArenaRunsUptoSaid : Prop := arenaRunsUptoRow.holds Try.pinned (OpenSpec.upto arenaRunsSpec)

/-- 'rickyardlaw3.ArenaRaw', WHERE WHAT IT READS IS OF BULK AT MOST 1048576: true; the input reads as it did. -/
def arenaRawUptoRow : OpenClaim := { program := "ytncmebefgklpjaa", sum := "133e4ff4b8103076245d0408d8ade4e74d82aa18c9727d0f1d174a20c03577b9", func := "rickyard/rickyardlaw3.ArenaRaw", spec := "arenaRaw", apart := false, narrowed := true }
def ArenaRawUptoSaid : Prop := arenaRawUptoRow.holds Try.pinned (OpenSpec.upto arenaRawSpec)

/-- 'rickyardlaw3.ArenaBack', WHERE WHAT IT READS IS OF BULK AT MOST 1048576: true; the input reads as it did. -/
def arenaBackUptoRow : OpenClaim := { program := "ytncmebefgklpjaa", sum := "133e4ff4b8103076245d0408d8ade4e74d82aa18c9727d0f1d174a20c03577b9", func := "rickyard/rickyardlaw3.ArenaBack", spec := "arenaBack", apart := false, narrowed := true }
def ArenaBackUptoSaid : Prop := arenaBackUptoRow.holds Try.pinned (OpenSpec.upto arenaBackSpec)

/-- 'rickyardlaw3.ArenaOwn', WHERE WHAT IT READS IS OF BULK AT MOST 1048576: true; the input reads as it did. -/
def arenaOwnUptoRow : OpenClaim := { program := "ytncmebefgklpjaa", sum := "133e4ff4b8103076245d0408d8ade4e74d82aa18c9727d0f1d174a20c03577b9", func := "rickyard/rickyardlaw3.ArenaOwn", spec := "arenaOwn", apart := false, narrowed := true }
def ArenaOwnUptoSaid : Prop := arenaOwnUptoRow.holds Try.pinned (OpenSpec.upto arenaOwnSpec)

/-- 'rickyardlaw3.ArenaNone', WHERE WHAT IT READS IS OF BULK AT MOST 1048576: true; the input reads as it did. -/
def arenaNoneUptoRow : OpenClaim := { program := "ytncmebefgklpjaa", sum := "133e4ff4b8103076245d0408d8ade4e74d82aa18c9727d0f1d174a20c03577b9", func := "rickyard/rickyardlaw3.ArenaNone", spec := "arenaNone", apart := false, narrowed := true }
def ArenaNoneUptoSaid : Prop := arenaNoneUptoRow.holds Try.pinned (OpenSpec.upto arenaNoneSpec)

/-- 'rickyardlaw9.ChainRuns', WHERE WHAT IT READS IS OF BULK AT MOST 1048576: true; the input reads as it did. -/
def chainRunsUptoRow : OpenClaim := { program := "ytncmebefgklpjaa", sum := "133e4ff4b8103076245d0408d8ade4e74d82aa18c9727d0f1d174a20c03577b9", func := "rickyard/rickyardlaw9.ChainRuns", spec := "chainRuns", apart := false, narrowed := true }
def ChainRunsUptoSaid : Prop := chainRunsUptoRow.holds Try.pinned (OpenSpec.upto chainRunsSpec)

/-- 'rickyardlaw9.ChainBack', WHERE WHAT IT READS IS OF BULK AT MOST 1048576: true; the input reads as it did. -/
def chainBackUptoRow : OpenClaim := { program := "ytncmebefgklpjaa", sum := "133e4ff4b8103076245d0408d8ade4e74d82aa18c9727d0f1d174a20c03577b9", func := "rickyard/rickyardlaw9.ChainBack", spec := "chainBack", apart := false, narrowed := true }
def ChainBackUptoSaid : Prop := chainBackUptoRow.holds Try.pinned (OpenSpec.upto chainBackSpec)

/-- 'rickyardlaw9.ChainTwo', WHERE WHAT IT READS IS OF BULK AT MOST 1048576: true; the input reads as it did. -/
def chainTwoUptoRow : OpenClaim := { program := "ytncmebefgklpjaa", sum := "133e4ff4b8103076245d0408d8ade4e74d82aa18c9727d0f1d174a20c03577b9", func := "rickyard/rickyardlaw9.ChainTwo", spec := "chainTwo", apart := false, narrowed := true }
def ChainTwoUptoSaid : Prop := chainTwoUptoRow.holds Try.pinned (OpenSpec.upto chainTwoSpec)

/-- 'rickyardlaw9.ChainRaw', WHERE WHAT IT READS IS OF BULK AT MOST 1048576: true; the input reads as it did. -/
def chainRawUptoRow : OpenClaim := { program := "ytncmebefgklpjaa", sum := "133e4ff4b8103076245d0408d8ade4e74d82aa18c9727d0f1d174a20c03577b9", func := "rickyard/rickyardlaw9.ChainRaw", spec := "chainRaw", apart := false, narrowed := true }
def ChainRawUptoSaid : Prop := chainRawUptoRow.holds Try.pinned (OpenSpec.upto chainRawSpec)

/-- 'rickyardlaw9.ChainWalk', WHERE WHAT IT READS IS OF BULK AT MOST 1048576: true; the input reads as it did. -/
def chainWalkUptoRow : OpenClaim := { program := "ytncmebefgklpjaa", sum := "133e4ff4b8103076245d0408d8ade4e74d82aa18c9727d0f1d174a20c03577b9", func := "rickyard/rickyardlaw9.ChainWalk", spec := "chainWalk", apart := false, narrowed := true }
def ChainWalkUptoSaid : Prop := chainWalkUptoRow.holds Try.pinned (OpenSpec.upto chainWalkSpec)

/-- 'rickyardlaw9.ChainNone', WHERE WHAT IT READS IS OF BULK AT MOST 1048576: true; the input reads as it did. -/
def chainNoneUptoRow : OpenClaim := { program := "ytncmebefgklpjaa", sum := "133e4ff4b8103076245d0408d8ade4e74d82aa18c9727d0f1d174a20c03577b9", func := "rickyard/rickyardlaw9.ChainNone", spec := "chainNone", apart := false, narrowed := true }
def ChainNoneUptoSaid : Prop := chainNoneUptoRow.holds Try.pinned (OpenSpec.upto chainNoneSpec)

end Rows
end Go.Proofs.Ytncmebefgklpjaa
