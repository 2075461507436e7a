/-
  No cell of these rows narrows 'for every input' (looked for: loops, veiled, ifaces, maps, wideKeys, modest, calm, conditions, laid).
  DERIVED. THE GIVEN ROWS OF THIS SEAT. 8 by the template 'for every input the law returns true; each argument reads behind the call as it read before'; 0 by the template 'total and deterministic' (their statements: YtojijdfgflcnjaaTotals.lean).
  GIVEN WITH THE SEED: the statements are not yours to turn. If you find one false, say at which input.
  Laid BY PROGRAM, IN A SANDBOX (cutbox-rows.mjs): the forced cells as the released guide's own fill.sh prints them over the translation 7105b023b858ae69… (all of the seat's roots in one cut). By AI agents, Wed Nov 11 2026. No macro, syntax, notation, axiom, sorry.
-/
import Derived.Test.YtojijdfgflcnjaaChecked
import GoSem.Claim
import GoSem.ClaimJoined
import GoSem.ClaimMapViews
import Derived.JoinedTies
import Derived.KernelRfl
namespace Go.Proofs.Ytojijdfgflcnjaa
/- THE CELL 'sum', in the pinned program and in every row, IS THE sha256 OF THE DUMP (.gsa) THAT YtojijdfgflcnjaaProg.lean LOADS. Nothing in Lean hashes anything: it is a label: what it is worth is what the hold of that sum in a sandbox is worth. -/
noncomputable def Try.pinned : Pinned := { name := "ytojijdfgflcnjaa", sum := "7105b023b858ae690bc6766e23769ff901fd9eaf5d5bc39ec9fe6cf900c35a79", checked := Try.checked }
namespace Rows
def none {H : Type} : Left H := { results := [], args := [] }

/-- 'rickyardlaw30.TallyMids': WHATEVER THE INPUT: true; the input reads as it did. -/
def tallyMidsSpec : ChangeSpec := { name := "tallyMids", fn := fun _ => fun
  | [d] => { results := [.lit (.bool true)], args := [d] }
  | _ => none }
def tallyMidsRow : OpenClaim := { program := "ytojijdfgflcnjaa", sum := "7105b023b858ae690bc6766e23769ff901fd9eaf5d5bc39ec9fe6cf900c35a79", func := "rickyard/rickyardlaw30.TallyMids", spec := "tallyMids", inPlace := ["math.Float64frombits", "math.Float64bits"], unfollowed := true, recurses := true, apart := false }
def TallyMidsSaid : Prop := tallyMidsRow.holds Try.pinned (OpenSpec.ofChange tallyMidsSpec)

/-- ITS FALSE NEIGHBOUR: 'it returns false'. Refute it at one input. -/
def tallyMidsWrong : ChangeSpec := { name := "tallyMids", fn := fun _ => fun
  | [d] => { results := [.lit (.bool false)], args := [d] }
  | _ => none }
def TallyMidsWrongFalsely : Prop := tallyMidsRow.holds Try.pinned (OpenSpec.ofChange tallyMidsWrong)

/-- 'rickyardlaw30.TallyOrder': WHATEVER THE INPUT: true; the input reads as it did. -/
def tallyOrderSpec : ChangeSpec := { name := "tallyOrder", fn := fun _ => fun
  | [d1, d2, d3] => { results := [.lit (.bool true)], args := [d1, d2, d3] }
  | _ => none }
def tallyOrderRow : OpenClaim := { program := "ytojijdfgflcnjaa", sum := "7105b023b858ae690bc6766e23769ff901fd9eaf5d5bc39ec9fe6cf900c35a79", func := "rickyard/rickyardlaw30.TallyOrder", spec := "tallyOrder", inPlace := ["math.Float64frombits", "math.Float64bits"], unfollowed := true, recurses := true, apart := false }
def TallyOrderSaid : Prop := tallyOrderRow.holds Try.pinned (OpenSpec.ofChange tallyOrderSpec)

/-- ITS FALSE NEIGHBOUR: 'it returns false'. Refute it at one input. -/
def tallyOrderWrong : ChangeSpec := { name := "tallyOrder", fn := fun _ => fun
  | [d1, d2, d3] => { results := [.lit (.bool false)], args := [d1, d2, d3] }
  | _ => none }
def TallyOrderWrongFalsely : Prop := tallyOrderRow.holds Try.pinned (OpenSpec.ofChange tallyOrderWrong)

/-- 'rickyardlaw30.TallyKinds': WHATEVER THE INPUT: true; the input reads as it did. -/
def tallyKindsSpec : ChangeSpec := { name := "tallyKinds", fn := fun _ => fun
  | [d] => { results := [.lit (.bool true)], args := [d] }
  | _ => none }
def tallyKindsRow : OpenClaim := { program := "ytojijdfgflcnjaa", sum := "7105b023b858ae690bc6766e23769ff901fd9eaf5d5bc39ec9fe6cf900c35a79", func := "rickyard/rickyardlaw30.TallyKinds", spec := "tallyKinds", inPlace := ["math.Float64frombits", "math.Float64bits"], unfollowed := true, recurses := true, apart := false }
def TallyKindsSaid : Prop := tallyKindsRow.holds Try.pinned (OpenSpec.ofChange tallyKindsSpec)

/-- ITS FALSE NEIGHBOUR: 'it returns false'. Refute it at one input. -/
def tallyKindsWrong : ChangeSpec := { name := "tallyKinds", fn := fun _ => fun
  | [d] => { results := [.lit (.bool false)], args := [d] }
  | _ => none }
def TallyKindsWrongFalsely : Prop := tallyKindsRow.holds Try.pinned (OpenSpec.ofChange tallyKindsWrong)

/-- 'rickyardlaw30.TallyShares': WHATEVER THE INPUT: true; the input reads as it did. -/
def tallySharesSpec : ChangeSpec := { name := "tallyShares", fn := fun _ => fun
  | [d1, d2] => { results := [.lit (.bool true)], args := [d1, d2] }
  | _ => none }
def tallySharesRow : OpenClaim := { program := "ytojijdfgflcnjaa", sum := "7105b023b858ae690bc6766e23769ff901fd9eaf5d5bc39ec9fe6cf900c35a79", func := "rickyard/rickyardlaw30.TallyShares", spec := "tallyShares", inPlace := ["math.Float64bits", "math.Float64frombits"], unfollowed := true, recurses := true, apart := false }
def TallySharesSaid : Prop := tallySharesRow.holds Try.pinned (OpenSpec.ofChange tallySharesSpec)

/-- ITS FALSE NEIGHBOUR: 'it returns false'. Refute it at one input. -/
def tallySharesWrong : ChangeSpec := { name := "tallyShares", fn := fun _ => fun
  | [d1, d2] => { results := [.lit (.bool false)], args := [d1, d2] }
  | _ => none }
def TallySharesWrongFalsely : Prop := tallySharesRow.holds Try.pinned (OpenSpec.ofChange tallySharesWrong)

/-- 'rickyardlaw30.TallyBroken': WHATEVER THE INPUT: true; the input reads as it did. -/
def tallyBrokenSpec : ChangeSpec := { name := "tallyBroken", fn := fun _ => fun
  | [d] => { results := [.lit (.bool true)], args := [d] }
  | _ => none }
def tallyBrokenRow : OpenClaim := { program := "ytojijdfgflcnjaa", sum := "7105b023b858ae690bc6766e23769ff901fd9eaf5d5bc39ec9fe6cf900c35a79", func := "rickyard/rickyardlaw30.TallyBroken", spec := "tallyBroken", inPlace := ["math.Float64bits", "math.Float64frombits"], unfollowed := true, recurses := true, apart := false }
def TallyBrokenSaid : Prop := tallyBrokenRow.holds Try.pinned (OpenSpec.ofChange tallyBrokenSpec)

/-- ITS FALSE NEIGHBOUR: 'it returns false'. Refute it at one input. -/
def tallyBrokenWrong : ChangeSpec := { name := "tallyBroken", fn := fun _ => fun
  | [d] => { results := [.lit (.bool false)], args := [d] }
  | _ => none }
def TallyBrokenWrongFalsely : Prop := tallyBrokenRow.holds Try.pinned (OpenSpec.ofChange tallyBrokenWrong)

/-- 'rickyardlaw30.TallyEdges': WHATEVER THE INPUT: true; the input reads as it did. -/
def tallyEdgesSpec : ChangeSpec := { name := "tallyEdges", fn := fun _ => fun
  | [d1, d2] => { results := [.lit (.bool true)], args := [d1, d2] }
  | _ => none }
def tallyEdgesRow : OpenClaim := { program := "ytojijdfgflcnjaa", sum := "7105b023b858ae690bc6766e23769ff901fd9eaf5d5bc39ec9fe6cf900c35a79", func := "rickyard/rickyardlaw30.TallyEdges", spec := "tallyEdges", inPlace := ["math.Float64bits", "math.Float64frombits"], unfollowed := true, recurses := true, apart := false }
def TallyEdgesSaid : Prop := tallyEdgesRow.holds Try.pinned (OpenSpec.ofChange tallyEdgesSpec)

/-- ITS FALSE NEIGHBOUR: 'it returns false'. Refute it at one input. -/
def tallyEdgesWrong : ChangeSpec := { name := "tallyEdges", fn := fun _ => fun
  | [d1, d2] => { results := [.lit (.bool false)], args := [d1, d2] }
  | _ => none }
def TallyEdgesWrongFalsely : Prop := tallyEdgesRow.holds Try.pinned (OpenSpec.ofChange tallyEdgesWrong)

/-- 'rickyardlaw30.TallyParts': WHATEVER THE INPUT: true; the input reads as it did. -/
def tallyPartsSpec : ChangeSpec := { name := "tallyParts", fn := fun _ => fun
  | [d1, d2, d3] => { results := [.lit (.bool true)], args := [d1, d2, d3] }
  | _ => none }
def tallyPartsRow : OpenClaim := { program := "ytojijdfgflcnjaa", sum := "7105b023b858ae690bc6766e23769ff901fd9eaf5d5bc39ec9fe6cf900c35a79", func := "rickyard/rickyardlaw30.TallyParts", spec := "tallyParts", inPlace := ["math.Float64bits", "math.Float64frombits"], unfollowed := true, recurses := true, apart := false }
def TallyPartsSaid : Prop := tallyPartsRow.holds Try.pinned (OpenSpec.ofChange tallyPartsSpec)

/-- ITS FALSE NEIGHBOUR: 'it returns false'. Refute it at one input. -/
def tallyPartsWrong : ChangeSpec := { name := "tallyParts", fn := fun _ => fun
  | [d1, d2, d3] => { results := [.lit (.bool false)], args := [d1, d2, d3] }
  | _ => none }
def TallyPartsWrongFalsely : Prop := tallyPartsRow.holds Try.pinned (OpenSpec.ofChange tallyPartsWrong)

/-- 'rickyardlaw30.TallyBetween': WHATEVER THE INPUT: true; the input reads as it did. -/
def tallyBetweenSpec : ChangeSpec := { name := "tallyBetween", fn := fun _ => fun
  | [d] => { results := [.lit (.bool true)], args := [d] }
  | _ => none }
def tallyBetweenRow : OpenClaim := { program := "ytojijdfgflcnjaa", sum := "7105b023b858ae690bc6766e23769ff901fd9eaf5d5bc39ec9fe6cf900c35a79", func := "rickyard/rickyardlaw30.TallyBetween", spec := "tallyBetween", inPlace := ["math.Float64frombits", "math.Float64bits"], unfollowed := true, recurses := true, apart := false }
def TallyBetweenSaid : Prop := tallyBetweenRow.holds Try.pinned (OpenSpec.ofChange tallyBetweenSpec)

/-- ITS FALSE NEIGHBOUR: 'it returns false'. Refute it at one input. -/
def tallyBetweenWrong : ChangeSpec := { name := "tallyBetween", fn := fun _ => fun
  | [d] => { results := [.lit (.bool false)], args := [d] }
  | _ => none }
def TallyBetweenWrongFalsely : Prop := tallyBetweenRow.holds Try.pinned (OpenSpec.ofChange tallyBetweenWrong)

/- THE SECOND FORM. 'bulk': how many values and letters a reading holds, each counted each time it is reached (what is shared counts as often as it is met; a slice's spare places count too). A statement '..UptoSaid' is the law's where the arguments, and the package variables that the reading takes, are together of bulk at most 1048576: NARROWER than '..Said'. Prove '..Said' where nothing that the law and all that it calls make is longer than what came in: it says more and counts as full. Else prove '..UptoSaid'. A law counts once. -/
mutual
def uptoBulk {H : Type} : DataW H → Nat
  | .lit (.string bytes) => bytes.length + 1
  | .lit _ => 1
  | .nil => 1
  | .ptr d => uptoBulk d + 1
  | .slice elems spare => uptoBulkAll elems + uptoBulkAll spare + 1
  | .agg parts => uptoBulkAll parts + 1
  | .iface _ d => uptoBulk d + 1
  | .map entries => uptoBulkEntries entries + 1
  | .held _ => 1
def uptoBulkAll {H : Type} : List (DataW H) → Nat
  | [] => 0
  | d :: r => uptoBulk d + uptoBulkAll r
def uptoBulkEntries {H : Type} : List (Lit × DataW H) → Nat
  | [] => 0
  | x :: r => uptoBulkEntry x + uptoBulkEntries r
def uptoBulkEntry {H : Type} : Lit × DataW H → Nat
  | (.string bytes, d) => bytes.length + uptoBulk d + 1
  | (_, d) => uptoBulk d + 1
 end
def uptoSmall : (H : Type) → List (DataW H) → Bool := fun _ ds => decide (uptoBulkAll ds ≤ 1048576)
def OpenSpec.upto (s : _root_.Go.ChangeSpec) : _root_.Go.OpenSpec := { _root_.Go.OpenSpec.ofChange s with cond := some uptoSmall }

/-- 'rickyardlaw30.TallyMids', WHERE WHAT IT READS IS OF BULK AT MOST 1048576: true; the input reads as it did. -/
def tallyMidsUptoRow : OpenClaim := { program := "ytojijdfgflcnjaa", sum := "7105b023b858ae690bc6766e23769ff901fd9eaf5d5bc39ec9fe6cf900c35a79", func := "rickyard/rickyardlaw30.TallyMids", spec := "tallyMids", inPlace := ["math.Float64frombits", "math.Float64bits"], unfollowed := true, recurses := true, apart := false, narrowed := true }
def TallyMidsUptoSaid : Prop := tallyMidsUptoRow.holds Try.pinned (OpenSpec.upto tallyMidsSpec)

/-- 'rickyardlaw30.TallyOrder', WHERE WHAT IT READS IS OF BULK AT MOST 1048576: true; the input reads as it did. -/
def tallyOrderUptoRow : OpenClaim := { program := "ytojijdfgflcnjaa", sum := "7105b023b858ae690bc6766e23769ff901fd9eaf5d5bc39ec9fe6cf900c35a79", func := "rickyard/rickyardlaw30.TallyOrder", spec := "tallyOrder", inPlace := ["math.Float64frombits", "math.Float64bits"], unfollowed := true, recurses := true, apart := false, narrowed := true }
def TallyOrderUptoSaid : Prop := tallyOrderUptoRow.holds Try.pinned (OpenSpec.upto tallyOrderSpec)

/-- 'rickyardlaw30.TallyKinds', WHERE WHAT IT READS IS OF BULK AT MOST 1048576: true; the input reads as it did. -/
def tallyKindsUptoRow : OpenClaim := { program := "ytojijdfgflcnjaa", sum := "7105b023b858ae690bc6766e23769ff901fd9eaf5d5bc39ec9fe6cf900c35a79", func := "rickyard/rickyardlaw30.TallyKinds", spec := "tallyKinds", inPlace := ["math.Float64frombits", "math.Float64bits"], unfollowed := true, recurses := true, apart := false, narrowed := true }
def TallyKindsUptoSaid : Prop := tallyKindsUptoRow.holds Try.pinned (OpenSpec.upto tallyKindsSpec)

/-- 'rickyardlaw30.TallyShares', WHERE WHAT IT READS IS OF BULK AT MOST 1048576: true; the input reads as it did. -/
def tallySharesUptoRow : OpenClaim := { program := "ytojijdfgflcnjaa", sum := "7105b023b858ae690bc6766e23769ff901fd9eaf5d5bc39ec9fe6cf900c35a79", func := "rickyard/rickyardlaw30.TallyShares", spec := "tallyShares", inPlace := ["math.Float64bits", "math.Float64frombits"], unfollowed := true, recurses := true, apart := false, narrowed := true }
def TallySharesUptoSaid : Prop := tallySharesUptoRow.holds Try.pinned (OpenSpec.upto tallySharesSpec)

/-- 'rickyardlaw30.TallyBroken', WHERE WHAT IT READS IS OF BULK AT MOST 1048576: true; the input reads as it did. -/
def tallyBrokenUptoRow : OpenClaim := { program := "ytojijdfgflcnjaa", sum := "7105b023b858ae690bc6766e23769ff901fd9eaf5d5bc39ec9fe6cf900c35a79", func := "rickyard/rickyardlaw30.TallyBroken", spec := "tallyBroken", inPlace := ["math.Float64bits", "math.Float64frombits"], unfollowed := true, recurses := true, apart := false, narrowed := true }
def TallyBrokenUptoSaid : Prop := tallyBrokenUptoRow.holds Try.pinned (OpenSpec.upto tallyBrokenSpec)

/-- 'rickyardlaw30.TallyEdges', WHERE WHAT IT READS IS OF BULK AT MOST 1048576: true; the input reads as it did. -/
def tallyEdgesUptoRow : OpenClaim := { program := "ytojijdfgflcnjaa", sum := "7105b023b858ae690bc6766e23769ff901fd9eaf5d5bc39ec9fe6cf900c35a79", func := "rickyard/rickyardlaw30.TallyEdges", spec := "tallyEdges", inPlace := ["math.Float64bits", "math.Float64frombits"], unfollowed := true, recurses := true, apart := false, narrowed := true }
def TallyEdgesUptoSaid : Prop := tallyEdgesUptoRow.holds Try.pinned (OpenSpec.upto tallyEdgesSpec)

/-- 'rickyardlaw30.TallyParts', WHERE WHAT IT READS IS OF BULK AT MOST 1048576: true; the input reads as it did. -/
def tallyPartsUptoRow : OpenClaim := { program := "ytojijdfgflcnjaa", sum := "7105b023b858ae690bc6766e23769ff901fd9eaf5d5bc39ec9fe6cf900c35a79", func := "rickyard/rickyardlaw30.TallyParts", spec := "tallyParts", inPlace := ["math.Float64bits", "math.Float64frombits"], unfollowed := true, recurses := true, apart := false, narrowed := true }
def TallyPartsUptoSaid : Prop := tallyPartsUptoRow.holds Try.pinned (OpenSpec.upto tallyPartsSpec)

/-- 'rickyardlaw30.TallyBetween', WHERE WHAT IT READS IS OF BULK AT MOST 1048576: true; the input reads as it did. -/
def tallyBetweenUptoRow : OpenClaim := { program := "ytojijdfgflcnjaa", sum := "7105b023b858ae690bc6766e23769ff901fd9eaf5d5bc39ec9fe6cf900c35a79", func := "rickyard/rickyardlaw30.TallyBetween", spec := "tallyBetween", inPlace := ["math.Float64frombits", "math.Float64bits"], unfollowed := true, recurses := true, apart := false, narrowed := true }
def TallyBetweenUptoSaid : Prop := tallyBetweenUptoRow.holds Try.pinned (OpenSpec.upto tallyBetweenSpec)

end Rows
end Go.Proofs.Ytojijdfgflcnjaa
