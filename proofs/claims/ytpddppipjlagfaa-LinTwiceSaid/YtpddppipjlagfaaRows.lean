/-
  No cell of these rows narrows 'for every input' (looked for: loops, veiled, ifaces, maps, wideKeys, modest, calm, conditions, laid).
  DERIVED. THE GIVEN ROWS OF THIS SEAT. 6 by the template 'for every input the law returns true; each argument reads behind the call as it read before'; 0 by the template 'total and deterministic' (their statements: YtpddppipjlagfaaTotals.lean).
  GIVEN WITH THE SEED: the statements are not yours to turn. If you find one false, say at which input.
  Laid BY PROGRAM, IN A SANDBOX (cutbox-rows.mjs): the forced cells as the released guide's own fill.sh prints them over the translation 9eb109472467c955… (all of the seat's roots in one cut). By AI agents, Wed Nov 11 2026. No macro, syntax, notation, axiom, sorry.
-/
import Derived.Test.YtpddppipjlagfaaChecked
import GoSem.Claim
import GoSem.ClaimJoined
import GoSem.ClaimMapViews
import Derived.JoinedTies
import Derived.KernelRfl
namespace Go.Proofs.Ytpddppipjlagfaa
/- THE CELL 'sum', in the pinned program and in every row, IS THE sha256 OF THE DUMP (.gsa) THAT YtpddppipjlagfaaProg.lean LOADS. Nothing in Lean hashes anything: it is a label: what it is worth is what the hold of that sum in a sandbox is worth. -/
noncomputable def Try.pinned : Pinned := { name := "ytpddppipjlagfaa", sum := "9eb109472467c95575e2e82d0e929508f70441974ae48ec3885fb39f0ae6679b", checked := Try.checked }
namespace Rows
def none {H : Type} : Left H := { results := [], args := [] }

/-- 'rickyardlaw27.LinAll': WHATEVER THE INPUT: true; the input reads as it did. -/
def linAllSpec : ChangeSpec := { name := "linAll", fn := fun _ => fun
  | [d1, d2, d3] => { results := [.lit (.bool true)], args := [d1, d2, d3] }
  | _ => none }
def linAllRow : OpenClaim := { program := "ytpddppipjlagfaa", sum := "9eb109472467c95575e2e82d0e929508f70441974ae48ec3885fb39f0ae6679b", func := "rickyard/rickyardlaw27.LinAll", spec := "linAll", inPlace := ["slices.overlaps[rickyard/api.Live]"], unfollowed := true, recurses := true, apart := false }
def LinAllSaid : Prop := linAllRow.holds Try.pinned (OpenSpec.ofChange linAllSpec)

/-- ITS FALSE NEIGHBOUR: 'it returns false'. Refute it at one input. -/
def linAllWrong : ChangeSpec := { name := "linAll", fn := fun _ => fun
  | [d1, d2, d3] => { results := [.lit (.bool false)], args := [d1, d2, d3] }
  | _ => none }
def LinAllWrongFalsely : Prop := linAllRow.holds Try.pinned (OpenSpec.ofChange linAllWrong)

/-- 'rickyardlaw27.LinFinds': WHATEVER THE INPUT: true; the input reads as it did. -/
def linFindsSpec : ChangeSpec := { name := "linFinds", fn := fun _ => fun
  | [d1, d2, d3, d4] => { results := [.lit (.bool true)], args := [d1, d2, d3, d4] }
  | _ => none }
def linFindsRow : OpenClaim := { program := "ytpddppipjlagfaa", sum := "9eb109472467c95575e2e82d0e929508f70441974ae48ec3885fb39f0ae6679b", func := "rickyard/rickyardlaw27.LinFinds", spec := "linFinds", inPlace := ["slices.overlaps[rickyard/api.Live]"], unfollowed := true, recurses := true, apart := false }
def LinFindsSaid : Prop := linFindsRow.holds Try.pinned (OpenSpec.ofChange linFindsSpec)

/-- ITS FALSE NEIGHBOUR: 'it returns false'. Refute it at one input. -/
def linFindsWrong : ChangeSpec := { name := "linFinds", fn := fun _ => fun
  | [d1, d2, d3, d4] => { results := [.lit (.bool false)], args := [d1, d2, d3, d4] }
  | _ => none }
def LinFindsWrongFalsely : Prop := linFindsRow.holds Try.pinned (OpenSpec.ofChange linFindsWrong)

/-- 'rickyardlaw27.LinPoints': WHATEVER THE INPUT: true; the input reads as it did. -/
def linPointsSpec : ChangeSpec := { name := "linPoints", fn := fun _ => fun
  | [d1, d2, d3, d4] => { results := [.lit (.bool true)], args := [d1, d2, d3, d4] }
  | _ => none }
def linPointsRow : OpenClaim := { program := "ytpddppipjlagfaa", sum := "9eb109472467c95575e2e82d0e929508f70441974ae48ec3885fb39f0ae6679b", func := "rickyard/rickyardlaw27.LinPoints", spec := "linPoints", inPlace := ["slices.overlaps[rickyard/api.Live]"], unfollowed := true, recurses := true, apart := false }
def LinPointsSaid : Prop := linPointsRow.holds Try.pinned (OpenSpec.ofChange linPointsSpec)

/-- ITS FALSE NEIGHBOUR: 'it returns false'. Refute it at one input. -/
def linPointsWrong : ChangeSpec := { name := "linPoints", fn := fun _ => fun
  | [d1, d2, d3, d4] => { results := [.lit (.bool false)], args := [d1, d2, d3, d4] }
  | _ => none }
def LinPointsWrongFalsely : Prop := linPointsRow.holds Try.pinned (OpenSpec.ofChange linPointsWrong)

/-- 'rickyardlaw27.LinRow': WHATEVER THE INPUT: true; the input reads as it did. -/
def linRowSpec : ChangeSpec := { name := "linRow", fn := fun _ => fun
  | [d1, d2, d3] => { results := [.lit (.bool true)], args := [d1, d2, d3] }
  | _ => none }
def linRowRow : OpenClaim := { program := "ytpddppipjlagfaa", sum := "9eb109472467c95575e2e82d0e929508f70441974ae48ec3885fb39f0ae6679b", func := "rickyard/rickyardlaw27.LinRow", spec := "linRow", inPlace := ["slices.overlaps[rickyard/api.Live]"], unfollowed := true, recurses := true, apart := false }
def LinRowSaid : Prop := linRowRow.holds Try.pinned (OpenSpec.ofChange linRowSpec)

/-- ITS FALSE NEIGHBOUR: 'it returns false'. Refute it at one input. -/
def linRowWrong : ChangeSpec := { name := "linRow", fn := fun _ => fun
  | [d1, d2, d3] => { results := [.lit (.bool false)], args := [d1, d2, d3] }
  | _ => none }
def LinRowWrongFalsely : Prop := linRowRow.holds Try.pinned (OpenSpec.ofChange linRowWrong)

/-- 'rickyardlaw27.LinTwice': WHATEVER THE INPUT: true; the input reads as it did. -/
def linTwiceSpec : ChangeSpec := { name := "linTwice", fn := fun _ => fun
  | [d1, d2, d3, d4] => { results := [.lit (.bool true)], args := [d1, d2, d3, d4] }
  | _ => none }
def linTwiceRow : OpenClaim := { program := "ytpddppipjlagfaa", sum := "9eb109472467c95575e2e82d0e929508f70441974ae48ec3885fb39f0ae6679b", func := "rickyard/rickyardlaw27.LinTwice", spec := "linTwice", inPlace := ["slices.overlaps[rickyard/api.Live]"], unfollowed := true, recurses := true, apart := false }
def LinTwiceSaid : Prop := linTwiceRow.holds Try.pinned (OpenSpec.ofChange linTwiceSpec)

/-- ITS FALSE NEIGHBOUR: 'it returns false'. Refute it at one input. -/
def linTwiceWrong : ChangeSpec := { name := "linTwice", fn := fun _ => fun
  | [d1, d2, d3, d4] => { results := [.lit (.bool false)], args := [d1, d2, d3, d4] }
  | _ => none }
def LinTwiceWrongFalsely : Prop := linTwiceRow.holds Try.pinned (OpenSpec.ofChange linTwiceWrong)

/-- 'rickyardlaw27.LinDrops': WHATEVER THE INPUT: true; the input reads as it did. -/
def linDropsSpec : ChangeSpec := { name := "linDrops", fn := fun _ => fun
  | [d1, d2, d3, d4] => { results := [.lit (.bool true)], args := [d1, d2, d3, d4] }
  | _ => none }
def linDropsRow : OpenClaim := { program := "ytpddppipjlagfaa", sum := "9eb109472467c95575e2e82d0e929508f70441974ae48ec3885fb39f0ae6679b", func := "rickyard/rickyardlaw27.LinDrops", spec := "linDrops", inPlace := ["slices.overlaps[rickyard/api.Live]"], unfollowed := true, recurses := true, apart := false }
def LinDropsSaid : Prop := linDropsRow.holds Try.pinned (OpenSpec.ofChange linDropsSpec)

/-- ITS FALSE NEIGHBOUR: 'it returns false'. Refute it at one input. -/
def linDropsWrong : ChangeSpec := { name := "linDrops", fn := fun _ => fun
  | [d1, d2, d3, d4] => { results := [.lit (.bool false)], args := [d1, d2, d3, d4] }
  | _ => none }
def LinDropsWrongFalsely : Prop := linDropsRow.holds Try.pinned (OpenSpec.ofChange linDropsWrong)

/- THE SECOND FORM. 'bulk': how many values and letters a reading holds, each counted each time it is reached (what is shared counts as often as it is met; a slice's spare places count too). A statement '..UptoSaid' is the law's where the arguments, and the package variables that the reading takes, are together of bulk at most 1048576: NARROWER than '..Said'. Prove '..Said' where nothing that the law and all that it calls make is longer than what came in: it says more and counts as full. Else prove '..UptoSaid'. A law counts once. -/
mutual
def uptoBulk {H : Type} : DataW H → Nat
  | .lit (.string bytes) => bytes.length + 1
  | .lit _ => 1
  | .nil => 1
  | .ptr d => uptoBulk d + 1
  | .slice elems spare => uptoBulkAll elems + uptoBulkAll spare + 1
  | .agg parts => uptoBulkAll parts + 1
  | .iface _ d => uptoBulk d + 1
  | .map entries => uptoBulkEntries entries + 1
  | .held _ => 1
def uptoBulkAll {H : Type} : List (DataW H) → Nat
  | [] => 0
  | d :: r => uptoBulk d + uptoBulkAll r
def uptoBulkEntries {H : Type} : List (Lit × DataW H) → Nat
  | [] => 0
  | x :: r => uptoBulkEntry x + uptoBulkEntries r
def uptoBulkEntry {H : Type} : Lit × DataW H → Nat
  | (.string bytes, d) => bytes.length + uptoBulk d + 1
  | (_, d) => uptoBulk d + 1
 end
def uptoSmall : (H : Type) → List (DataW H) → Bool := fun _ ds => decide (uptoBulkAll ds ≤ 1048576)
def OpenSpec.upto (s : _root_.Go.ChangeSpec) : _root_.Go.OpenSpec := { _root_.Go.OpenSpec.ofChange s with cond := some uptoSmall }

/-- 'rickyardlaw27.LinAll', WHERE WHAT IT READS IS OF BULK AT MOST 1048576: true; the input reads as it did. -/
def linAllUptoRow : OpenClaim := { program := "ytpddppipjlagfaa", sum := "9eb109472467c95575e2e82d0e929508f70441974ae48ec3885fb39f0ae6679b", func := "rickyard/rickyardlaw27.LinAll", spec := "linAll", inPlace := ["slices.overlaps[rickyard/api.Live]"], unfollowed := true, recurses := true, apart := false, narrowed := true }
def LinAllUptoSaid : Prop := linAllUptoRow.holds Try.pinned (OpenSpec.upto linAllSpec)

/-- 'rickyardlaw27.LinFinds', WHERE WHAT IT READS IS OF BULK AT MOST 1048576: true; the input reads as it did. -/
def linFindsUptoRow : OpenClaim := { program := "ytpddppipjlagfaa", sum := "9eb109472467c95575e2e82d0e929508f70441974ae48ec3885fb39f0ae6679b", func := "rickyard/rickyardlaw27.LinFinds", spec := "linFinds", inPlace := ["slices.overlaps[rickyard/api.Live]"], unfollowed := true, recurses := true, apart := false, narrowed := true }
def LinFindsUptoSaid : Prop := linFindsUptoRow.holds Try.pinned (OpenSpec.upto linFindsSpec)

/-- 'rickyardlaw27.LinPoints', WHERE WHAT IT READS IS OF BULK AT MOST 1048576: true; the input reads as it did. -/
def linPointsUptoRow : OpenClaim := { program := "ytpddppipjlagfaa", sum := "9eb109472467c95575e2e82d0e929508f70441974ae48ec3885fb39f0ae6679b", func := "rickyard/rickyardlaw27.LinPoints", spec := "linPoints", inPlace := ["slices.overlaps[rickyard/api.Live]"], unfollowed := true, recurses := true, apart := false, narrowed := true }
def LinPointsUptoSaid : Prop := linPointsUptoRow.holds Try.pinned (OpenSpec.upto linPointsSpec)

/-- 'rickyardlaw27.LinRow', WHERE WHAT IT READS IS OF BULK AT MOST 1048576: true; the input reads as it did. -/
def linRowUptoRow : OpenClaim := { program := "ytpddppipjlagfaa", sum := "9eb109472467c95575e2e82d0e929508f70441974ae48ec3885fb39f0ae6679b", func := "rickyard/rickyardlaw27.LinRow", spec := "linRow", inPlace := ["slices.overlaps[rickyard/api.Live]"], unfollowed := true, recurses := true, apart := false, narrowed := true }
def LinRowUptoSaid : Prop := linRowUptoRow.holds Try.pinned (OpenSpec.upto linRowSpec)

/-- 'rickyardlaw27.LinTwice', WHERE WHAT IT READS IS OF BULK AT MOST 1048576: true; the input reads as it did. -/
def linTwiceUptoRow : OpenClaim := { program := "ytpddppipjlagfaa", sum := "9eb109472467c95575e2e82d0e929508f70441974ae48ec3885fb39f0ae6679b", func := "rickyard/rickyardlaw27.LinTwice", spec := "linTwice", inPlace := ["slices.overlaps[rickyard/api.Live]"], unfollowed := true, recurses := true, apart := false, narrowed := true }
def LinTwiceUptoSaid : Prop := linTwiceUptoRow.holds Try.pinned (OpenSpec.upto linTwiceSpec)

/-- 'rickyardlaw27.LinDrops', WHERE WHAT IT READS IS OF BULK AT MOST 1048576: true; the input reads as it did. -/
def linDropsUptoRow : OpenClaim := { program := "ytpddppipjlagfaa", sum := "9eb109472467c95575e2e82d0e929508f70441974ae48ec3885fb39f0ae6679b", func := "rickyard/rickyardlaw27.LinDrops", spec := "linDrops", inPlace := ["slices.overlaps[rickyard/api.Live]"], unfollowed := true, recurses := true, apart := false, narrowed := true }
def LinDropsUptoSaid : Prop := linDropsUptoRow.holds Try.pinned (OpenSpec.upto linDropsSpec)

end Rows
end Go.Proofs.Ytpddppipjlagfaa
