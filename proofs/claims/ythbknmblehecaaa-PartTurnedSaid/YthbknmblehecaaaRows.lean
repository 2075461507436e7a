/-
  No cell of these rows narrows 'for every input' (looked for: loops, veiled, ifaces, maps, wideKeys, modest, calm, conditions, laid).
  DERIVED. THE GIVEN ROWS OF THIS SEAT. 10 by the template 'for every input the law returns true; each argument reads behind the call as it read before'; 0 by the template 'total and deterministic' (their statements: YthbknmblehecaaaTotals.lean).
  GIVEN WITH THE SEED: the statements are not yours to turn. If you find one false, say at which input.
  Laid BY PROGRAM, IN A SANDBOX (cutbox-rows.mjs): the forced cells as the released guide's own fill.sh prints them over the translation 8fb4f5044de95dca… (all of the seat's roots in one cut). By AI agents, Wed Nov 11 2026. No macro, syntax, notation, axiom, sorry.
-/
import Derived.Test.YthbknmblehecaaaChecked
import GoSem.Claim
import GoSem.ClaimJoined
import GoSem.ClaimMapViews
import Derived.JoinedTies
import Derived.KernelRfl
namespace Go.Proofs.Ythbknmblehecaaa
/- THE CELL 'sum', in the pinned program and in every row, IS THE sha256 OF THE DUMP (.gsa) THAT YthbknmblehecaaaProg.lean LOADS. Nothing in Lean hashes anything: it is a label: what it is worth is what the hold of that sum in a sandbox is worth. -/
noncomputable def Try.pinned : Pinned := { name := "ythbknmblehecaaa", sum := "8fb4f5044de95dca943bec7d611525cab21a430669f3e36d5b717ade4e547859", checked := Try.checked }
namespace Rows
def none {H : Type} : Left H := { results := [], args := [] }

/-- 'rickyardlaw5.RunsFirst': WHATEVER THE INPUT: true; the input reads as it did. -/
def runsFirstSpec : ChangeSpec := { name := "runsFirst", fn := fun _ => fun
  | [d1, d2] => { results := [.lit (.bool true)], args := [d1, d2] }
  | _ => none }
def runsFirstRow : OpenClaim := { program := "ythbknmblehecaaa", sum := "8fb4f5044de95dca943bec7d611525cab21a430669f3e36d5b717ade4e547859", func := "rickyard/rickyardlaw5.RunsFirst", spec := "runsFirst", inPlace := ["slices.overlaps[rickyard/api.Run]"], unfollowed := true, recurses := true, apart := false }
def RunsFirstSaid : Prop := runsFirstRow.holds Try.pinned (OpenSpec.ofChange runsFirstSpec)

/-- ITS FALSE NEIGHBOUR: 'it returns false'. Refute it at one input. -/
def runsFirstWrong : ChangeSpec := { name := "runsFirst", fn := fun _ => fun
  | [d1, d2] => { results := [.lit (.bool false)], args := [d1, d2] }
  | _ => none }
def RunsFirstWrongFalsely : Prop := runsFirstRow.holds Try.pinned (OpenSpec.ofChange runsFirstWrong)

/-- 'rickyardlaw5.RunsOwn': WHATEVER THE INPUT: true; the input reads as it did. -/
def runsOwnSpec : ChangeSpec := { name := "runsOwn", fn := fun _ => fun
  | [d1, d2, d3] => { results := [.lit (.bool true)], args := [d1, d2, d3] }
  | _ => none }
def runsOwnRow : OpenClaim := { program := "ythbknmblehecaaa", sum := "8fb4f5044de95dca943bec7d611525cab21a430669f3e36d5b717ade4e547859", func := "rickyard/rickyardlaw5.RunsOwn", spec := "runsOwn", inPlace := ["slices.overlaps[rickyard/api.Run]"], unfollowed := true, recurses := true, apart := false }
def RunsOwnSaid : Prop := runsOwnRow.holds Try.pinned (OpenSpec.ofChange runsOwnSpec)

/-- ITS FALSE NEIGHBOUR: 'it returns false'. Refute it at one input. -/
def runsOwnWrong : ChangeSpec := { name := "runsOwn", fn := fun _ => fun
  | [d1, d2, d3] => { results := [.lit (.bool false)], args := [d1, d2, d3] }
  | _ => none }
def RunsOwnWrongFalsely : Prop := runsOwnRow.holds Try.pinned (OpenSpec.ofChange runsOwnWrong)

/-- 'rickyardlaw5.RunsPages': WHATEVER THE INPUT: true; the input reads as it did. -/
def runsPagesSpec : ChangeSpec := { name := "runsPages", fn := fun _ => fun
  | [d1, d2, d3, d4] => { results := [.lit (.bool true)], args := [d1, d2, d3, d4] }
  | _ => none }
def runsPagesRow : OpenClaim := { program := "ythbknmblehecaaa", sum := "8fb4f5044de95dca943bec7d611525cab21a430669f3e36d5b717ade4e547859", func := "rickyard/rickyardlaw5.RunsPages", spec := "runsPages", inPlace := ["slices.overlaps[rickyard/api.Run]"], unfollowed := true, recurses := true, apart := false }
def RunsPagesSaid : Prop := runsPagesRow.holds Try.pinned (OpenSpec.ofChange runsPagesSpec)

/-- ITS FALSE NEIGHBOUR: 'it returns false'. Refute it at one input. -/
def runsPagesWrong : ChangeSpec := { name := "runsPages", fn := fun _ => fun
  | [d1, d2, d3, d4] => { results := [.lit (.bool false)], args := [d1, d2, d3, d4] }
  | _ => none }
def RunsPagesWrongFalsely : Prop := runsPagesRow.holds Try.pinned (OpenSpec.ofChange runsPagesWrong)

/-- 'rickyardlaw5.RunsBack': WHATEVER THE INPUT: true; the input reads as it did. -/
def runsBackSpec : ChangeSpec := { name := "runsBack", fn := fun _ => fun
  | [d1, d2] => { results := [.lit (.bool true)], args := [d1, d2] }
  | _ => none }
def runsBackRow : OpenClaim := { program := "ythbknmblehecaaa", sum := "8fb4f5044de95dca943bec7d611525cab21a430669f3e36d5b717ade4e547859", func := "rickyard/rickyardlaw5.RunsBack", spec := "runsBack", inPlace := ["slices.overlaps[rickyard/api.Run]"], unfollowed := true, recurses := true, apart := false }
def RunsBackSaid : Prop := runsBackRow.holds Try.pinned (OpenSpec.ofChange runsBackSpec)

/-- ITS FALSE NEIGHBOUR: 'it returns false'. Refute it at one input. -/
def runsBackWrong : ChangeSpec := { name := "runsBack", fn := fun _ => fun
  | [d1, d2] => { results := [.lit (.bool false)], args := [d1, d2] }
  | _ => none }
def RunsBackWrongFalsely : Prop := runsBackRow.holds Try.pinned (OpenSpec.ofChange runsBackWrong)

/-- 'rickyardlaw5.RunsWalk': WHATEVER THE INPUT: true; the input reads as it did. -/
def runsWalkSpec : ChangeSpec := { name := "runsWalk", fn := fun _ => fun
  | [d] => { results := [.lit (.bool true)], args := [d] }
  | _ => none }
def runsWalkRow : OpenClaim := { program := "ythbknmblehecaaa", sum := "8fb4f5044de95dca943bec7d611525cab21a430669f3e36d5b717ade4e547859", func := "rickyard/rickyardlaw5.RunsWalk", spec := "runsWalk", inPlace := ["slices.overlaps[rickyard/api.Run]"], unfollowed := true, recurses := true, apart := false }
def RunsWalkSaid : Prop := runsWalkRow.holds Try.pinned (OpenSpec.ofChange runsWalkSpec)

/-- ITS FALSE NEIGHBOUR: 'it returns false'. Refute it at one input. -/
def runsWalkWrong : ChangeSpec := { name := "runsWalk", fn := fun _ => fun
  | [d] => { results := [.lit (.bool false)], args := [d] }
  | _ => none }
def RunsWalkWrongFalsely : Prop := runsWalkRow.holds Try.pinned (OpenSpec.ofChange runsWalkWrong)

/-- 'rickyardlaw5.RunsAll': WHATEVER THE INPUT: true; the input reads as it did. -/
def runsAllSpec : ChangeSpec := { name := "runsAll", fn := fun _ => fun
  | [d1, d2, d3, d4, d5] => { results := [.lit (.bool true)], args := [d1, d2, d3, d4, d5] }
  | _ => none }
def runsAllRow : OpenClaim := { program := "ythbknmblehecaaa", sum := "8fb4f5044de95dca943bec7d611525cab21a430669f3e36d5b717ade4e547859", func := "rickyard/rickyardlaw5.RunsAll", spec := "runsAll", inPlace := ["slices.overlaps[rickyard/api.Run]"], unfollowed := true, recurses := true, apart := false }
def RunsAllSaid : Prop := runsAllRow.holds Try.pinned (OpenSpec.ofChange runsAllSpec)

/-- ITS FALSE NEIGHBOUR: 'it returns false'. Refute it at one input. -/
def runsAllWrong : ChangeSpec := { name := "runsAll", fn := fun _ => fun
  | [d1, d2, d3, d4, d5] => { results := [.lit (.bool false)], args := [d1, d2, d3, d4, d5] }
  | _ => none }
def RunsAllWrongFalsely : Prop := runsAllRow.holds Try.pinned (OpenSpec.ofChange runsAllWrong)

/-- 'rickyardlaw26.PartAll': WHATEVER THE INPUT: true; the input reads as it did. -/
def partAllSpec : ChangeSpec := { name := "partAll", fn := fun _ => fun
  | [d1, d2, d3] => { results := [.lit (.bool true)], args := [d1, d2, d3] }
  | _ => none }
def partAllRow : OpenClaim := { program := "ythbknmblehecaaa", sum := "8fb4f5044de95dca943bec7d611525cab21a430669f3e36d5b717ade4e547859", func := "rickyard/rickyardlaw26.PartAll", spec := "partAll", unfollowed := true, recurses := true, apart := false }
def PartAllSaid : Prop := partAllRow.holds Try.pinned (OpenSpec.ofChange partAllSpec)

/-- ITS FALSE NEIGHBOUR: 'it returns false'. Refute it at one input. -/
def partAllWrong : ChangeSpec := { name := "partAll", fn := fun _ => fun
  | [d1, d2, d3] => { results := [.lit (.bool false)], args := [d1, d2, d3] }
  | _ => none }
def PartAllWrongFalsely : Prop := partAllRow.holds Try.pinned (OpenSpec.ofChange partAllWrong)

/-- 'rickyardlaw26.PartCuts': WHATEVER THE INPUT: true; the input reads as it did. -/
def partCutsSpec : ChangeSpec := { name := "partCuts", fn := fun _ => fun
  | [d1, d2] => { results := [.lit (.bool true)], args := [d1, d2] }
  | _ => none }
def partCutsRow : OpenClaim := { program := "ythbknmblehecaaa", sum := "8fb4f5044de95dca943bec7d611525cab21a430669f3e36d5b717ade4e547859", func := "rickyard/rickyardlaw26.PartCuts", spec := "partCuts", unfollowed := true, recurses := true, apart := false }
def PartCutsSaid : Prop := partCutsRow.holds Try.pinned (OpenSpec.ofChange partCutsSpec)

/-- ITS FALSE NEIGHBOUR: 'it returns false'. Refute it at one input. -/
def partCutsWrong : ChangeSpec := { name := "partCuts", fn := fun _ => fun
  | [d1, d2] => { results := [.lit (.bool false)], args := [d1, d2] }
  | _ => none }
def PartCutsWrongFalsely : Prop := partCutsRow.holds Try.pinned (OpenSpec.ofChange partCutsWrong)

/-- 'rickyardlaw26.PartTurned': WHATEVER THE INPUT: true; the input reads as it did. -/
def partTurnedSpec : ChangeSpec := { name := "partTurned", fn := fun _ => fun
  | [d1, d2, d3, d4] => { results := [.lit (.bool true)], args := [d1, d2, d3, d4] }
  | _ => none }
def partTurnedRow : OpenClaim := { program := "ythbknmblehecaaa", sum := "8fb4f5044de95dca943bec7d611525cab21a430669f3e36d5b717ade4e547859", func := "rickyard/rickyardlaw26.PartTurned", spec := "partTurned", unfollowed := true, recurses := true, apart := false }
def PartTurnedSaid : Prop := partTurnedRow.holds Try.pinned (OpenSpec.ofChange partTurnedSpec)

/-- ITS FALSE NEIGHBOUR: 'it returns false'. Refute it at one input. -/
def partTurnedWrong : ChangeSpec := { name := "partTurned", fn := fun _ => fun
  | [d1, d2, d3, d4] => { results := [.lit (.bool false)], args := [d1, d2, d3, d4] }
  | _ => none }
def PartTurnedWrongFalsely : Prop := partTurnedRow.holds Try.pinned (OpenSpec.ofChange partTurnedWrong)

/-- 'rickyardlaw26.PartSums': WHATEVER THE INPUT: true; the input reads as it did. -/
def partSumsSpec : ChangeSpec := { name := "partSums", fn := fun _ => fun
  | [d1, d2, d3, d4] => { results := [.lit (.bool true)], args := [d1, d2, d3, d4] }
  | _ => none }
def partSumsRow : OpenClaim := { program := "ythbknmblehecaaa", sum := "8fb4f5044de95dca943bec7d611525cab21a430669f3e36d5b717ade4e547859", func := "rickyard/rickyardlaw26.PartSums", spec := "partSums", unfollowed := true, recurses := true, apart := false }
def PartSumsSaid : Prop := partSumsRow.holds Try.pinned (OpenSpec.ofChange partSumsSpec)

/-- ITS FALSE NEIGHBOUR: 'it returns false'. Refute it at one input. -/
def partSumsWrong : ChangeSpec := { name := "partSums", fn := fun _ => fun
  | [d1, d2, d3, d4] => { results := [.lit (.bool false)], args := [d1, d2, d3, d4] }
  | _ => none }
def PartSumsWrongFalsely : Prop := partSumsRow.holds Try.pinned (OpenSpec.ofChange partSumsWrong)

/- THE SECOND FORM. 'bulk': how many values and letters a reading holds, each counted each time it is reached (what is shared counts as often as it is met; a slice's spare places count too). A statement '..UptoSaid' is the law's where the arguments, and the package variables that the reading takes, are together of bulk at most 1048576: NARROWER than '..Said'. Prove '..Said' where nothing that the law and all that it calls make is longer than what came in: it says more and counts as full. Else prove '..UptoSaid'. A law counts once. -/
mutual
def uptoBulk {H : Type} : DataW H → Nat
  | .lit (.string bytes) => bytes.length + 1
  | .lit _ => 1
  | .nil => 1
  | .ptr d => uptoBulk d + 1
  | .slice elems spare => uptoBulkAll elems + uptoBulkAll spare + 1
  | .agg parts => uptoBulkAll parts + 1
  | .iface _ d => uptoBulk d + 1
  | .map entries => uptoBulkEntries entries + 1
  | .held _ => 1
def uptoBulkAll {H : Type} : List (DataW H) → Nat
  | [] => 0
  | d :: r => uptoBulk d + uptoBulkAll r
def uptoBulkEntries {H : Type} : List (Lit × DataW H) → Nat
  | [] => 0
  | x :: r => uptoBulkEntry x + uptoBulkEntries r
def uptoBulkEntry {H : Type} : Lit × DataW H → Nat
  | (.string bytes, d) => bytes.length + uptoBulk d + 1
  | (_, d) => uptoBulk d + 1
 end
def uptoSmall : (H : Type) → List (DataW H) → Bool := fun _ ds => decide (uptoBulkAll ds ≤ 1048576)
def OpenSpec.upto (s : _root_.Go.ChangeSpec) : _root_.Go.OpenSpec := { _root_.Go.OpenSpec.ofChange s with cond := some uptoSmall }

/-- 'rickyardlaw5.RunsFirst', WHERE WHAT IT READS IS OF BULK AT MOST 1048576: true; the input reads as it did. -/
def runsFirstUptoRow : OpenClaim := { program := "ythbknmblehecaaa", sum := "8fb4f5044de95dca943bec7d611525cab21a430669f3e36d5b717ade4e547859", func := "rickyard/rickyardlaw5.RunsFirst", spec := "runsFirst", inPlace := ["slices.overlaps[rickyard/api.Run]"], unfollowed := true, recurses := true, apart := false, narrowed := true }
def RunsFirstUptoSaid : Prop := runsFirstUptoRow.holds Try.pinned (OpenSpec.upto runsFirstSpec)

/-- 'rickyardlaw5.RunsOwn', WHERE WHAT IT READS IS OF BULK AT MOST 1048576: true; the input reads as it did. -/
def runsOwnUptoRow : OpenClaim := { program := "ythbknmblehecaaa", sum := "8fb4f5044de95dca943bec7d611525cab21a430669f3e36d5b717ade4e547859", func := "rickyard/rickyardlaw5.RunsOwn", spec := "runsOwn", inPlace := ["slices.overlaps[rickyard/api.Run]"], unfollowed := true, recurses := true, apart := false, narrowed := true }
def RunsOwnUptoSaid : Prop := runsOwnUptoRow.holds Try.pinned (OpenSpec.upto runsOwnSpec)

/-- 'rickyardlaw5.RunsPages', WHERE WHAT IT READS IS OF BULK AT MOST 1048576: true; the input reads as it did. -/
def runsPagesUptoRow : OpenClaim := { program := "ythbknmblehecaaa", sum := "8fb4f5044de95dca943bec7d611525cab21a430669f3e36d5b717ade4e547859", func := "rickyard/rickyardlaw5.RunsPages", spec := "runsPages", inPlace := ["slices.overlaps[rickyard/api.Run]"], unfollowed := true, recurses := true, apart := false, narrowed := true }
def RunsPagesUptoSaid : Prop := runsPagesUptoRow.holds Try.pinned (OpenSpec.upto runsPagesSpec)

/-- 'rickyardlaw5.RunsBack', WHERE WHAT IT READS IS OF BULK AT MOST 1048576: true; the input reads as it did. -/
def runsBackUptoRow : OpenClaim := { program := "ythbknmblehecaaa", sum := "8fb4f5044de95dca943bec7d611525cab21a430669f3e36d5b717ade4e547859", func := "rickyard/rickyardlaw5.RunsBack", spec := "runsBack", inPlace := ["slices.overlaps[rickyard/api.Run]"], unfollowed := true, recurses := true, apart := false, narrowed := true }
def RunsBackUptoSaid : Prop := runsBackUptoRow.holds Try.pinned (OpenSpec.upto runsBackSpec)

/-- 'rickyardlaw5.RunsWalk', WHERE WHAT IT READS IS OF BULK AT MOST 1048576: true; the input reads as it did. -/
def runsWalkUptoRow : OpenClaim := { program := "ythbknmblehecaaa", sum := "8fb4f5044de95dca943bec7d611525cab21a430669f3e36d5b717ade4e547859", func := "rickyard/rickyardlaw5.RunsWalk", spec := "runsWalk", inPlace := ["slices.overlaps[rickyard/api.Run]"], unfollowed := true, recurses := true, apart := false, narrowed := true }
def RunsWalkUptoSaid : Prop := runsWalkUptoRow.holds Try.pinned (OpenSpec.upto runsWalkSpec)

/-- 'rickyardlaw5.RunsAll', WHERE WHAT IT READS IS OF BULK AT MOST 1048576: true; the input reads as it did. -/
def runsAllUptoRow : OpenClaim := { program := "ythbknmblehecaaa", sum := "8fb4f5044de95dca943bec7d611525cab21a430669f3e36d5b717ade4e547859", func := "rickyard/rickyardlaw5.RunsAll", spec := "runsAll", inPlace := ["slices.overlaps[rickyard/api.Run]"], unfollowed := true, recurses := true, apart := false, narrowed := true }
def RunsAllUptoSaid : Prop := runsAllUptoRow.holds Try.pinned (OpenSpec.upto runsAllSpec)

/-- 'rickyardlaw26.PartAll', WHERE WHAT IT READS IS OF BULK AT MOST 1048576: true; the input reads as it did. -/
def partAllUptoRow : OpenClaim := { program := "ythbknmblehecaaa", sum := "8fb4f5044de95dca943bec7d611525cab21a430669f3e36d5b717ade4e547859", func := "rickyard/rickyardlaw26.PartAll", spec := "partAll", unfollowed := true, recurses := true, apart := false, narrowed := true }
def PartAllUptoSaid : Prop := partAllUptoRow.holds Try.pinned (OpenSpec.upto partAllSpec)

/-- 'rickyardlaw26.PartCuts', WHERE WHAT IT READS IS OF BULK AT MOST 1048576: true; the input reads as it did. -/
def partCutsUptoRow : OpenClaim := { program := "ythbknmblehecaaa", sum := "8fb4f5044de95dca943bec7d611525cab21a430669f3e36d5b717ade4e547859", func := "rickyard/rickyardlaw26.PartCuts", spec := "partCuts", unfollowed := true, recurses := true, apart := false, narrowed := true }
def PartCutsUptoSaid : Prop := partCutsUptoRow.holds Try.pinned (OpenSpec.upto partCutsSpec)

/-- 'rickyardlaw26.PartTurned', WHERE WHAT IT READS IS OF BULK AT MOST 1048576: true; the input reads as it did. -/
def partTurnedUptoRow : OpenClaim := { program := "ythbknmblehecaaa", sum := "8fb4f5044de95dca943bec7d611525cab21a430669f3e36d5b717ade4e547859", func := "rickyard/rickyardlaw26.PartTurned", spec := "partTurned", unfollowed := true, recurses := true, apart := false, narrowed := true }
def PartTurnedUptoSaid : Prop := partTurnedUptoRow.holds Try.pinned (OpenSpec.upto partTurnedSpec)

/-- 'rickyardlaw26.PartSums', WHERE WHAT IT READS IS OF BULK AT MOST 1048576: true; the input reads as it did. -/
def partSumsUptoRow : OpenClaim := { program := "ythbknmblehecaaa", sum := "8fb4f5044de95dca943bec7d611525cab21a430669f3e36d5b717ade4e547859", func := "rickyard/rickyardlaw26.PartSums", spec := "partSums", unfollowed := true, recurses := true, apart := false, narrowed := true }
def PartSumsUptoSaid : Prop := partSumsUptoRow.holds Try.pinned (OpenSpec.upto partSumsSpec)

end Rows
end Go.Proofs.Ythbknmblehecaaa
