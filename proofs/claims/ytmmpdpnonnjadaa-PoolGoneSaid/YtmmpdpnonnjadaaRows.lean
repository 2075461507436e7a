/-
  No cell of these rows narrows 'for every input' (looked for: loops, veiled, ifaces, maps, wideKeys, modest, calm, conditions, laid).
  DERIVED. THE GIVEN ROWS OF THIS SEAT. 6 by the template 'for every input the law returns true; each argument reads behind the call as it read before'; 0 by the template 'total and deterministic' (their statements: YtmmpdpnonnjadaaTotals.lean).
  GIVEN WITH THE SEED: the statements are not yours to turn. If you find one false, say at which input.
  Laid BY PROGRAM, IN A SANDBOX (cutbox-rows.mjs): the forced cells as the released guide's own fill.sh prints them over the translation 2a1fe40165c04d33… (all of the seat's roots in one cut). By AI agents, Wed Nov 11 2026. No macro, syntax, notation, axiom, sorry.
-/
import Derived.Test.YtmmpdpnonnjadaaChecked
import GoSem.Claim
import GoSem.ClaimJoined
import GoSem.ClaimMapViews
import Derived.JoinedTies
import Derived.KernelRfl
namespace Go.Proofs.Ytmmpdpnonnjadaa
/- THE CELL 'sum', in the pinned program and in every row, IS THE sha256 OF THE DUMP (.gsa) THAT YtmmpdpnonnjadaaProg.lean LOADS. Nothing in Lean hashes anything: it is a label: what it is worth is what the hold of that sum in a sandbox is worth. -/
noncomputable def Try.pinned : Pinned := { name := "ytmmpdpnonnjadaa", sum := "2a1fe40165c04d3390e78958ca1b79d998d092c11b9f3d53e371274a4822fb8d", checked := Try.checked }
namespace Rows
def none {H : Type} : Left H := { results := [], args := [] }

/-- 'rickyardlaw10.PoolOnce': WHATEVER THE INPUT: true; the input reads as it did. -/
def poolOnceSpec : ChangeSpec := { name := "poolOnce", fn := fun _ => fun
  | [d1, d2] => { results := [.lit (.bool true)], args := [d1, d2] }
  | _ => none }
def poolOnceRow : OpenClaim := { program := "ytmmpdpnonnjadaa", sum := "2a1fe40165c04d3390e78958ca1b79d998d092c11b9f3d53e371274a4822fb8d", func := "rickyard/rickyardlaw10.PoolOnce", spec := "poolOnce", inPlace := ["slices.overlaps[rickyard/pool.span]"], unfollowed := true, recurses := true, apart := false }
def PoolOnceSaid : Prop := poolOnceRow.holds Try.pinned (OpenSpec.ofChange poolOnceSpec)

/-- ITS FALSE NEIGHBOUR: 'it returns false'. Refute it at one input. -/
def poolOnceWrong : ChangeSpec := { name := "poolOnce", fn := fun _ => fun
  | [d1, d2] => { results := [.lit (.bool false)], args := [d1, d2] }
  | _ => none }
def PoolOnceWrongFalsely : Prop := poolOnceRow.holds Try.pinned (OpenSpec.ofChange poolOnceWrong)

/-- 'rickyardlaw10.PoolLow': WHATEVER THE INPUT: true; the input reads as it did. -/
def poolLowSpec : ChangeSpec := { name := "poolLow", fn := fun _ => fun
  | [d1, d2] => { results := [.lit (.bool true)], args := [d1, d2] }
  | _ => none }
def poolLowRow : OpenClaim := { program := "ytmmpdpnonnjadaa", sum := "2a1fe40165c04d3390e78958ca1b79d998d092c11b9f3d53e371274a4822fb8d", func := "rickyard/rickyardlaw10.PoolLow", spec := "poolLow", inPlace := ["slices.overlaps[rickyard/pool.span]"], unfollowed := true, recurses := true, apart := false }
def PoolLowSaid : Prop := poolLowRow.holds Try.pinned (OpenSpec.ofChange poolLowSpec)

/-- ITS FALSE NEIGHBOUR: 'it returns false'. Refute it at one input. -/
def poolLowWrong : ChangeSpec := { name := "poolLow", fn := fun _ => fun
  | [d1, d2] => { results := [.lit (.bool false)], args := [d1, d2] }
  | _ => none }
def PoolLowWrongFalsely : Prop := poolLowRow.holds Try.pinned (OpenSpec.ofChange poolLowWrong)

/-- 'rickyardlaw10.PoolRuns': WHATEVER THE INPUT: true; the input reads as it did. -/
def poolRunsSpec : ChangeSpec := { name := "poolRuns", fn := fun _ => fun
  | [d1, d2] => { results := [.lit (.bool true)], args := [d1, d2] }
  | _ => none }
def poolRunsRow : OpenClaim := { program := "ytmmpdpnonnjadaa", sum := "2a1fe40165c04d3390e78958ca1b79d998d092c11b9f3d53e371274a4822fb8d", func := "rickyard/rickyardlaw10.PoolRuns", spec := "poolRuns", inPlace := ["slices.overlaps[rickyard/pool.span]"], unfollowed := true, recurses := true, apart := false }
def PoolRunsSaid : Prop := poolRunsRow.holds Try.pinned (OpenSpec.ofChange poolRunsSpec)

/-- ITS FALSE NEIGHBOUR: 'it returns false'. Refute it at one input. -/
def poolRunsWrong : ChangeSpec := { name := "poolRuns", fn := fun _ => fun
  | [d1, d2] => { results := [.lit (.bool false)], args := [d1, d2] }
  | _ => none }
def PoolRunsWrongFalsely : Prop := poolRunsRow.holds Try.pinned (OpenSpec.ofChange poolRunsWrong)

/-- 'rickyardlaw10.PoolRaw': WHATEVER THE INPUT: true; the input reads as it did. -/
def poolRawSpec : ChangeSpec := { name := "poolRaw", fn := fun _ => fun
  | [d1, d2, d3, d4] => { results := [.lit (.bool true)], args := [d1, d2, d3, d4] }
  | _ => none }
def poolRawRow : OpenClaim := { program := "ytmmpdpnonnjadaa", sum := "2a1fe40165c04d3390e78958ca1b79d998d092c11b9f3d53e371274a4822fb8d", func := "rickyard/rickyardlaw10.PoolRaw", spec := "poolRaw", inPlace := ["slices.overlaps[rickyard/pool.span]"], unfollowed := true, recurses := true, apart := false }
def PoolRawSaid : Prop := poolRawRow.holds Try.pinned (OpenSpec.ofChange poolRawSpec)

/-- ITS FALSE NEIGHBOUR: 'it returns false'. Refute it at one input. -/
def poolRawWrong : ChangeSpec := { name := "poolRaw", fn := fun _ => fun
  | [d1, d2, d3, d4] => { results := [.lit (.bool false)], args := [d1, d2, d3, d4] }
  | _ => none }
def PoolRawWrongFalsely : Prop := poolRawRow.holds Try.pinned (OpenSpec.ofChange poolRawWrong)

/-- 'rickyardlaw10.PoolGone': WHATEVER THE INPUT: true; the input reads as it did. -/
def poolGoneSpec : ChangeSpec := { name := "poolGone", fn := fun _ => fun
  | [d1, d2, d3] => { results := [.lit (.bool true)], args := [d1, d2, d3] }
  | _ => none }
def poolGoneRow : OpenClaim := { program := "ytmmpdpnonnjadaa", sum := "2a1fe40165c04d3390e78958ca1b79d998d092c11b9f3d53e371274a4822fb8d", func := "rickyard/rickyardlaw10.PoolGone", spec := "poolGone", inPlace := ["slices.overlaps[rickyard/pool.span]"], unfollowed := true, recurses := true, apart := false }
def PoolGoneSaid : Prop := poolGoneRow.holds Try.pinned (OpenSpec.ofChange poolGoneSpec)

/-- ITS FALSE NEIGHBOUR: 'it returns false'. Refute it at one input. -/
def poolGoneWrong : ChangeSpec := { name := "poolGone", fn := fun _ => fun
  | [d1, d2, d3] => { results := [.lit (.bool false)], args := [d1, d2, d3] }
  | _ => none }
def PoolGoneWrongFalsely : Prop := poolGoneRow.holds Try.pinned (OpenSpec.ofChange poolGoneWrong)

/-- 'rickyardlaw10.PoolNone': WHATEVER THE INPUT: true; the input reads as it did. -/
def poolNoneSpec : ChangeSpec := { name := "poolNone", fn := fun _ => fun
  | [d1, d2, d3] => { results := [.lit (.bool true)], args := [d1, d2, d3] }
  | _ => none }
def poolNoneRow : OpenClaim := { program := "ytmmpdpnonnjadaa", sum := "2a1fe40165c04d3390e78958ca1b79d998d092c11b9f3d53e371274a4822fb8d", func := "rickyard/rickyardlaw10.PoolNone", spec := "poolNone", inPlace := ["slices.overlaps[rickyard/pool.span]"], unfollowed := true, recurses := true, apart := false }
def PoolNoneSaid : Prop := poolNoneRow.holds Try.pinned (OpenSpec.ofChange poolNoneSpec)

/-- ITS FALSE NEIGHBOUR: 'it returns false'. Refute it at one input. -/
def poolNoneWrong : ChangeSpec := { name := "poolNone", fn := fun _ => fun
  | [d1, d2, d3] => { results := [.lit (.bool false)], args := [d1, d2, d3] }
  | _ => none }
def PoolNoneWrongFalsely : Prop := poolNoneRow.holds Try.pinned (OpenSpec.ofChange poolNoneWrong)

/- THE SECOND FORM. 'bulk': how many values and letters a reading holds, each counted each time it is reached (what is shared counts as often as it is met; a slice's spare places count too). A statement '..UptoSaid' is the law's where the arguments, and the package variables that the reading takes, are together of bulk at most 1048576: NARROWER than '..Said'. Prove '..Said' where nothing that the law and all that it calls make is longer than what came in: it says more and counts as full. Else prove '..UptoSaid'. A law counts once. -/
mutual
def uptoBulk {H : Type} : DataW H → Nat
  | .lit (.string bytes) => bytes.length + 1
  | .lit _ => 1
  | .nil => 1
  | .ptr d => uptoBulk d + 1
  | .slice elems spare => uptoBulkAll elems + uptoBulkAll spare + 1
  | .agg parts => uptoBulkAll parts + 1
  | .iface _ d => uptoBulk d + 1
  | .map entries => uptoBulkEntries entries + 1
  | .held _ => 1
def uptoBulkAll {H : Type} : List (DataW H) → Nat
  | [] => 0
  | d :: r => uptoBulk d + uptoBulkAll r
def uptoBulkEntries {H : Type} : List (Lit × DataW H) → Nat
  | [] => 0
  | x :: r => uptoBulkEntry x + uptoBulkEntries r
def uptoBulkEntry {H : Type} : Lit × DataW H → Nat
  | (.string bytes, d) => bytes.length + uptoBulk d + 1
  | (_, d) => uptoBulk d + 1
 end
def uptoSmall : (H : Type) → List (DataW H) → Bool := fun _ ds => decide (uptoBulkAll ds ≤ 1048576)
def OpenSpec.upto (s : _root_.Go.ChangeSpec) : _root_.Go.OpenSpec := { _root_.Go.OpenSpec.ofChange s with cond := some uptoSmall }

/-- 'rickyardlaw10.PoolOnce', WHERE WHAT IT READS IS OF BULK AT MOST 1048576: true; the input reads as it did. -/
def poolOnceUptoRow : OpenClaim := { program := "ytmmpdpnonnjadaa", sum := "2a1fe40165c04d3390e78958ca1b79d998d092c11b9f3d53e371274a4822fb8d", func := "rickyard/rickyardlaw10.PoolOnce", spec := "poolOnce", inPlace := ["slices.overlaps[rickyard/pool.span]"], unfollowed := true, recurses := true, apart := false, narrowed := true }
def PoolOnceUptoSaid : Prop := poolOnceUptoRow.holds Try.pinned (OpenSpec.upto poolOnceSpec)

/-- 'rickyardlaw10.PoolLow', WHERE WHAT IT READS IS OF BULK AT MOST 1048576: true; the input reads as it did. -/
def poolLowUptoRow : OpenClaim := { program := "ytmmpdpnonnjadaa", sum := "2a1fe40165c04d3390e78958ca1b79d998d092c11b9f3d53e371274a4822fb8d", func := "rickyard/rickyardlaw10.PoolLow", spec := "poolLow", inPlace := ["slices.overlaps[rickyard/pool.span]"], unfollowed := true, recurses := true, apart := false, narrowed := true }
def PoolLowUptoSaid : Prop := poolLowUptoRow.holds Try.pinned (OpenSpec.upto poolLowSpec)

/-- 'rickyardlaw10.PoolRuns', WHERE WHAT IT READS IS OF BULK AT MOST 1048576: true; the input reads as it did. -/
def poolRunsUptoRow : OpenClaim := { program := "ytmmpdpnonnjadaa", sum := "2a1fe40165c04d3390e78958ca1b79d998d092c11b9f3d53e371274a4822fb8d", func := "rickyard/rickyardlaw10.PoolRuns", spec := "poolRuns", inPlace := ["slices.overlaps[rickyard/pool.span]"], unfollowed := true, recurses := true, apart := false, narrowed := true }
def PoolRunsUptoSaid : Prop := poolRunsUptoRow.holds Try.pinned (OpenSpec.upto poolRunsSpec)

/-- 'rickyardlaw10.PoolRaw', WHERE WHAT IT READS IS OF BULK AT MOST 1048576: true; the input reads as it did. -/
def poolRawUptoRow : OpenClaim := { program := "ytmmpdpnonnjadaa", sum := "2a1fe40165c04d3390e78958ca1b79d998d092c11b9f3d53e371274a4822fb8d", func := "rickyard/rickyardlaw10.PoolRaw", spec := "poolRaw", inPlace := ["slices.overlaps[rickyard/pool.span]"], unfollowed := true, recurses := true, apart := false, narrowed := true }
def PoolRawUptoSaid : Prop := poolRawUptoRow.holds Try.pinned (OpenSpec.upto poolRawSpec)

/-- 'rickyardlaw10.PoolGone', WHERE WHAT IT READS IS OF BULK AT MOST 1048576: true; the input reads as it did. -/
def poolGoneUptoRow : OpenClaim := { program := "ytmmpdpnonnjadaa", sum := "2a1fe40165c04d3390e78958ca1b79d998d092c11b9f3d53e371274a4822fb8d", func := "rickyard/rickyardlaw10.PoolGone", spec := "poolGone", inPlace := ["slices.overlaps[rickyard/pool.span]"], unfollowed := true, recurses := true, apart := false, narrowed := true }
def PoolGoneUptoSaid : Prop := poolGoneUptoRow.holds Try.pinned (OpenSpec.upto poolGoneSpec)

/-- 'rickyardlaw10.PoolNone', WHERE WHAT IT READS IS OF BULK AT MOST 1048576: true; the input reads as it did. -/
def poolNoneUptoRow : OpenClaim := { program := "ytmmpdpnonnjadaa", sum := "2a1fe40165c04d3390e78958ca1b79d998d092c11b9f3d53e371274a4822fb8d", func := "rickyard/rickyardlaw10.PoolNone", spec := "poolNone", inPlace := ["slices.overlaps[rickyard/pool.span]"], unfollowed := true, recurses := true, apart := false, narrowed := true }
def PoolNoneUptoSaid : Prop := poolNoneUptoRow.holds Try.pinned (OpenSpec.upto poolNoneSpec)

end Rows
end Go.Proofs.Ytmmpdpnonnjadaa
