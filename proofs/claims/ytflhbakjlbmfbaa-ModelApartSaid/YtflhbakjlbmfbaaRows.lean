/-
  No cell of these rows narrows 'for every input' (looked for: loops, veiled, ifaces, maps, wideKeys, modest, calm, conditions, laid).
  DERIVED. THE GIVEN ROWS OF THIS SEAT. 10 by the template 'for every input the law returns true; each argument reads behind the call as it read before'; 0 by the template 'total and deterministic' (their statements: YtflhbakjlbmfbaaTotals.lean).
  GIVEN WITH THE SEED: the statements are not yours to turn. If you find one false, say at which input.
  Laid BY PROGRAM, IN A SANDBOX (cutbox-rows.mjs): the forced cells as the released guide's own fill.sh prints them over the translation 4c2d16678e46cdc9… (all of the seat's roots in one cut). By AI agents, Wed Nov 11 2026. No macro, syntax, notation, axiom, sorry.
-/
import Derived.Test.YtflhbakjlbmfbaaChecked
import GoSem.Claim
import GoSem.ClaimJoined
import GoSem.ClaimMapViews
import Derived.JoinedTies
import Derived.KernelRfl
namespace Go.Proofs.Ytflhbakjlbmfbaa
/- THE CELL 'sum', in the pinned program and in every row, IS THE sha256 OF THE DUMP (.gsa) THAT YtflhbakjlbmfbaaProg.lean LOADS. Nothing in Lean hashes anything: it is a label: what it is worth is what the hold of that sum in a sandbox is worth. -/
noncomputable def Try.pinned : Pinned := { name := "ytflhbakjlbmfbaa", sum := "4c2d16678e46cdc909dc708a8ed2777e7e616321941ebc5d98c21d2daa576cea", checked := Try.checked }
namespace Rows
def none {H : Type} : Left H := { results := [], args := [] }

/-- 'rickyardlaw11.LargeOwn': WHATEVER THE INPUT: true; the input reads as it did. -/
def largeOwnSpec : ChangeSpec := { name := "largeOwn", fn := fun _ => fun
  | [d1, d2, d3] => { results := [.lit (.bool true)], args := [d1, d2, d3] }
  | _ => none }
def largeOwnRow : OpenClaim := { program := "ytflhbakjlbmfbaa", sum := "4c2d16678e46cdc909dc708a8ed2777e7e616321941ebc5d98c21d2daa576cea", func := "rickyard/rickyardlaw11.LargeOwn", spec := "largeOwn", inPlace := ["slices.overlaps[rickyard/api.Big]"], unfollowed := true, recurses := true, apart := false }
def LargeOwnSaid : Prop := largeOwnRow.holds Try.pinned (OpenSpec.ofChange largeOwnSpec)

/-- ITS FALSE NEIGHBOUR: 'it returns false'. Refute it at one input. -/
def largeOwnWrong : ChangeSpec := { name := "largeOwn", fn := fun _ => fun
  | [d1, d2, d3] => { results := [.lit (.bool false)], args := [d1, d2, d3] }
  | _ => none }
def LargeOwnWrongFalsely : Prop := largeOwnRow.holds Try.pinned (OpenSpec.ofChange largeOwnWrong)

/-- 'rickyardlaw13.ModelBack': WHATEVER THE INPUT: true; the input reads as it did. -/
def modelBackSpec : ChangeSpec := { name := "modelBack", fn := fun _ => fun
  | [d1, d2, d3] => { results := [.lit (.bool true)], args := [d1, d2, d3] }
  | _ => none }
def modelBackRow : OpenClaim := { program := "ytflhbakjlbmfbaa", sum := "4c2d16678e46cdc909dc708a8ed2777e7e616321941ebc5d98c21d2daa576cea", func := "rickyard/rickyardlaw13.ModelBack", spec := "modelBack", inPlace := ["slices.overlaps[rickyard/api.Live]"], unfollowed := true, recurses := true, apart := false }
def ModelBackSaid : Prop := modelBackRow.holds Try.pinned (OpenSpec.ofChange modelBackSpec)

/-- ITS FALSE NEIGHBOUR: 'it returns false'. Refute it at one input. -/
def modelBackWrong : ChangeSpec := { name := "modelBack", fn := fun _ => fun
  | [d1, d2, d3] => { results := [.lit (.bool false)], args := [d1, d2, d3] }
  | _ => none }
def ModelBackWrongFalsely : Prop := modelBackRow.holds Try.pinned (OpenSpec.ofChange modelBackWrong)

/-- 'rickyardlaw11.LargeOnce': WHATEVER THE INPUT: true; the input reads as it did. -/
def largeOnceSpec : ChangeSpec := { name := "largeOnce", fn := fun _ => fun
  | [d1, d2, d3] => { results := [.lit (.bool true)], args := [d1, d2, d3] }
  | _ => none }
def largeOnceRow : OpenClaim := { program := "ytflhbakjlbmfbaa", sum := "4c2d16678e46cdc909dc708a8ed2777e7e616321941ebc5d98c21d2daa576cea", func := "rickyard/rickyardlaw11.LargeOnce", spec := "largeOnce", inPlace := ["slices.overlaps[rickyard/api.Big]"], unfollowed := true, recurses := true, apart := false }
def LargeOnceSaid : Prop := largeOnceRow.holds Try.pinned (OpenSpec.ofChange largeOnceSpec)

/-- ITS FALSE NEIGHBOUR: 'it returns false'. Refute it at one input. -/
def largeOnceWrong : ChangeSpec := { name := "largeOnce", fn := fun _ => fun
  | [d1, d2, d3] => { results := [.lit (.bool false)], args := [d1, d2, d3] }
  | _ => none }
def LargeOnceWrongFalsely : Prop := largeOnceRow.holds Try.pinned (OpenSpec.ofChange largeOnceWrong)

/-- 'rickyardlaw11.LargeDrop': WHATEVER THE INPUT: true; the input reads as it did. -/
def largeDropSpec : ChangeSpec := { name := "largeDrop", fn := fun _ => fun
  | [d] => { results := [.lit (.bool true)], args := [d] }
  | _ => none }
def largeDropRow : OpenClaim := { program := "ytflhbakjlbmfbaa", sum := "4c2d16678e46cdc909dc708a8ed2777e7e616321941ebc5d98c21d2daa576cea", func := "rickyard/rickyardlaw11.LargeDrop", spec := "largeDrop", inPlace := ["slices.overlaps[rickyard/api.Big]"], unfollowed := true, recurses := true, apart := false }
def LargeDropSaid : Prop := largeDropRow.holds Try.pinned (OpenSpec.ofChange largeDropSpec)

/-- ITS FALSE NEIGHBOUR: 'it returns false'. Refute it at one input. -/
def largeDropWrong : ChangeSpec := { name := "largeDrop", fn := fun _ => fun
  | [d] => { results := [.lit (.bool false)], args := [d] }
  | _ => none }
def LargeDropWrongFalsely : Prop := largeDropRow.holds Try.pinned (OpenSpec.ofChange largeDropWrong)

/-- 'rickyardlaw13.ModelAll': WHATEVER THE INPUT: true; the input reads as it did. -/
def modelAllSpec : ChangeSpec := { name := "modelAll", fn := fun _ => fun
  | [d1, d2, d3] => { results := [.lit (.bool true)], args := [d1, d2, d3] }
  | _ => none }
def modelAllRow : OpenClaim := { program := "ytflhbakjlbmfbaa", sum := "4c2d16678e46cdc909dc708a8ed2777e7e616321941ebc5d98c21d2daa576cea", func := "rickyard/rickyardlaw13.ModelAll", spec := "modelAll", inPlace := ["slices.overlaps[rickyard/api.Live]"], unfollowed := true, recurses := true, apart := false }
def ModelAllSaid : Prop := modelAllRow.holds Try.pinned (OpenSpec.ofChange modelAllSpec)

/-- ITS FALSE NEIGHBOUR: 'it returns false'. Refute it at one input. -/
def modelAllWrong : ChangeSpec := { name := "modelAll", fn := fun _ => fun
  | [d1, d2, d3] => { results := [.lit (.bool false)], args := [d1, d2, d3] }
  | _ => none }
def ModelAllWrongFalsely : Prop := modelAllRow.holds Try.pinned (OpenSpec.ofChange modelAllWrong)

/-- 'rickyardlaw11.LargeAll': WHATEVER THE INPUT: true; the input reads as it did. -/
def largeAllSpec : ChangeSpec := { name := "largeAll", fn := fun _ => fun
  | [d1, d2, d3] => { results := [.lit (.bool true)], args := [d1, d2, d3] }
  | _ => none }
def largeAllRow : OpenClaim := { program := "ytflhbakjlbmfbaa", sum := "4c2d16678e46cdc909dc708a8ed2777e7e616321941ebc5d98c21d2daa576cea", func := "rickyard/rickyardlaw11.LargeAll", spec := "largeAll", inPlace := ["slices.overlaps[rickyard/api.Big]"], unfollowed := true, recurses := true, apart := false }
def LargeAllSaid : Prop := largeAllRow.holds Try.pinned (OpenSpec.ofChange largeAllSpec)

/-- ITS FALSE NEIGHBOUR: 'it returns false'. Refute it at one input. -/
def largeAllWrong : ChangeSpec := { name := "largeAll", fn := fun _ => fun
  | [d1, d2, d3] => { results := [.lit (.bool false)], args := [d1, d2, d3] }
  | _ => none }
def LargeAllWrongFalsely : Prop := largeAllRow.holds Try.pinned (OpenSpec.ofChange largeAllWrong)

/-- 'rickyardlaw13.ModelAccepts': WHATEVER THE INPUT: true; the input reads as it did. -/
def modelAcceptsSpec : ChangeSpec := { name := "modelAccepts", fn := fun _ => fun
  | [d1, d2, d3] => { results := [.lit (.bool true)], args := [d1, d2, d3] }
  | _ => none }
def modelAcceptsRow : OpenClaim := { program := "ytflhbakjlbmfbaa", sum := "4c2d16678e46cdc909dc708a8ed2777e7e616321941ebc5d98c21d2daa576cea", func := "rickyard/rickyardlaw13.ModelAccepts", spec := "modelAccepts", inPlace := ["slices.overlaps[rickyard/api.Live]"], unfollowed := true, recurses := true, apart := false }
def ModelAcceptsSaid : Prop := modelAcceptsRow.holds Try.pinned (OpenSpec.ofChange modelAcceptsSpec)

/-- ITS FALSE NEIGHBOUR: 'it returns false'. Refute it at one input. -/
def modelAcceptsWrong : ChangeSpec := { name := "modelAccepts", fn := fun _ => fun
  | [d1, d2, d3] => { results := [.lit (.bool false)], args := [d1, d2, d3] }
  | _ => none }
def ModelAcceptsWrongFalsely : Prop := modelAcceptsRow.holds Try.pinned (OpenSpec.ofChange modelAcceptsWrong)

/-- 'rickyardlaw13.ModelCut': WHATEVER THE INPUT: true; the input reads as it did. -/
def modelCutSpec : ChangeSpec := { name := "modelCut", fn := fun _ => fun
  | [d1, d2, d3] => { results := [.lit (.bool true)], args := [d1, d2, d3] }
  | _ => none }
def modelCutRow : OpenClaim := { program := "ytflhbakjlbmfbaa", sum := "4c2d16678e46cdc909dc708a8ed2777e7e616321941ebc5d98c21d2daa576cea", func := "rickyard/rickyardlaw13.ModelCut", spec := "modelCut", inPlace := ["slices.overlaps[rickyard/api.Live]"], unfollowed := true, recurses := true, apart := false }
def ModelCutSaid : Prop := modelCutRow.holds Try.pinned (OpenSpec.ofChange modelCutSpec)

/-- ITS FALSE NEIGHBOUR: 'it returns false'. Refute it at one input. -/
def modelCutWrong : ChangeSpec := { name := "modelCut", fn := fun _ => fun
  | [d1, d2, d3] => { results := [.lit (.bool false)], args := [d1, d2, d3] }
  | _ => none }
def ModelCutWrongFalsely : Prop := modelCutRow.holds Try.pinned (OpenSpec.ofChange modelCutWrong)

/-- 'rickyardlaw13.ModelOwn': WHATEVER THE INPUT: true; the input reads as it did. -/
def modelOwnSpec : ChangeSpec := { name := "modelOwn", fn := fun _ => fun
  | [d1, d2, d3] => { results := [.lit (.bool true)], args := [d1, d2, d3] }
  | _ => none }
def modelOwnRow : OpenClaim := { program := "ytflhbakjlbmfbaa", sum := "4c2d16678e46cdc909dc708a8ed2777e7e616321941ebc5d98c21d2daa576cea", func := "rickyard/rickyardlaw13.ModelOwn", spec := "modelOwn", inPlace := ["slices.overlaps[rickyard/api.Live]"], unfollowed := true, recurses := true, apart := false }
def ModelOwnSaid : Prop := modelOwnRow.holds Try.pinned (OpenSpec.ofChange modelOwnSpec)

/-- ITS FALSE NEIGHBOUR: 'it returns false'. Refute it at one input. -/
def modelOwnWrong : ChangeSpec := { name := "modelOwn", fn := fun _ => fun
  | [d1, d2, d3] => { results := [.lit (.bool false)], args := [d1, d2, d3] }
  | _ => none }
def ModelOwnWrongFalsely : Prop := modelOwnRow.holds Try.pinned (OpenSpec.ofChange modelOwnWrong)

/-- 'rickyardlaw13.ModelApart': WHATEVER THE INPUT: true; the input reads as it did. -/
def modelApartSpec : ChangeSpec := { name := "modelApart", fn := fun _ => fun
  | [d1, d2] => { results := [.lit (.bool true)], args := [d1, d2] }
  | _ => none }
def modelApartRow : OpenClaim := { program := "ytflhbakjlbmfbaa", sum := "4c2d16678e46cdc909dc708a8ed2777e7e616321941ebc5d98c21d2daa576cea", func := "rickyard/rickyardlaw13.ModelApart", spec := "modelApart", inPlace := ["slices.overlaps[rickyard/api.Live]"], unfollowed := true, recurses := true, apart := false }
def ModelApartSaid : Prop := modelApartRow.holds Try.pinned (OpenSpec.ofChange modelApartSpec)

/-- ITS FALSE NEIGHBOUR: 'it returns false'. Refute it at one input. -/
def modelApartWrong : ChangeSpec := { name := "modelApart", fn := fun _ => fun
  | [d1, d2] => { results := [.lit (.bool false)], args := [d1, d2] }
  | _ => none }
def ModelApartWrongFalsely : Prop := modelApartRow.holds Try.pinned (OpenSpec.ofChange modelApartWrong)

/- THE SECOND FORM. 'bulk': how many values and letters a reading holds, each counted each time it is reached (what is shared counts as often as it is met; a slice's spare places count too). A statement '..UptoSaid' is the law's where the arguments, and the package variables that the reading takes, are together of bulk at most 1048576: NARROWER than '..Said'. Prove '..Said' where nothing that the law and all that it calls make is longer than what came in: it says more and counts as full. Else prove '..UptoSaid'. A law counts once. -/
mutual
def uptoBulk {H : Type} : DataW H → Nat
  | .lit (.string bytes) => bytes.length + 1
  | .lit _ => 1
  | .nil => 1
  | .ptr d => uptoBulk d + 1
  | .slice elems spare => uptoBulkAll elems + uptoBulkAll spare + 1
  | .agg parts => uptoBulkAll parts + 1
  | .iface _ d => uptoBulk d + 1
  | .map entries => uptoBulkEntries entries + 1
  | .held _ => 1
def uptoBulkAll {H : Type} : List (DataW H) → Nat
  | [] => 0
  | d :: r => uptoBulk d + uptoBulkAll r
def uptoBulkEntries {H : Type} : List (Lit × DataW H) → Nat
  | [] => 0
  | x :: r => uptoBulkEntry x + uptoBulkEntries r
def uptoBulkEntry {H : Type} : Lit × DataW H → Nat
  | (.string bytes, d) => bytes.length + uptoBulk d + 1
  | (_, d) => uptoBulk d + 1
 end
def uptoSmall : (H : Type) → List (DataW H) → Bool := fun _ ds => decide (uptoBulkAll ds ≤ 1048576)
def OpenSpec.upto (s : _root_.Go.ChangeSpec) : _root_.Go.OpenSpec := { _root_.Go.OpenSpec.ofChange s with cond := some uptoSmall }

/-- 'rickyardlaw11.LargeOwn', WHERE WHAT IT READS IS OF BULK AT MOST 1048576: true; the input reads as it did. -/
def largeOwnUptoRow : OpenClaim := { program := "ytflhbakjlbmfbaa", sum := "4c2d16678e46cdc909dc708a8ed2777e7e616321941ebc5d98c21d2daa576cea", func := "rickyard/rickyardlaw11.LargeOwn", spec := "largeOwn", inPlace := ["slices.overlaps[rickyard/api.Big]"], unfollowed := true, recurses := true, apart := false, narrowed := true }
def LargeOwnUptoSaid : Prop := largeOwnUptoRow.holds Try.pinned (OpenSpec.upto largeOwnSpec)

/-- 'rickyardlaw13.ModelBack', WHERE WHAT IT READS IS OF BULK AT MOST 1048576: true; the input reads as it did. -/
def modelBackUptoRow : OpenClaim := { program := "ytflhbakjlbmfbaa", sum := "4c2d16678e46cdc909dc708a8ed2777e7e616321941ebc5d98c21d2daa576cea", func := "rickyard/rickyardlaw13.ModelBack", spec := "modelBack", inPlace := ["slices.overlaps[rickyard/api.Live]"], unfollowed := true, recurses := true, apart := false, narrowed := true }
def ModelBackUptoSaid : Prop := modelBackUptoRow.holds Try.pinned (OpenSpec.upto modelBackSpec)

/-- 'rickyardlaw11.LargeOnce', WHERE WHAT IT READS IS OF BULK AT MOST 1048576: true; the input reads as it did. -/
def largeOnceUptoRow : OpenClaim := { program := "ytflhbakjlbmfbaa", sum := "4c2d16678e46cdc909dc708a8ed2777e7e616321941ebc5d98c21d2daa576cea", func := "rickyard/rickyardlaw11.LargeOnce", spec := "largeOnce", inPlace := ["slices.overlaps[rickyard/api.Big]"], unfollowed := true, recurses := true, apart := false, narrowed := true }
def LargeOnceUptoSaid : Prop := largeOnceUptoRow.holds Try.pinned (OpenSpec.upto largeOnceSpec)

/-- 'rickyardlaw11.LargeDrop', WHERE WHAT IT READS IS OF BULK AT MOST 1048576: true; the input reads as it did. -/
def largeDropUptoRow : OpenClaim := { program := "ytflhbakjlbmfbaa", sum := "4c2d16678e46cdc909dc708a8ed2777e7e616321941ebc5d98c21d2daa576cea", func := "rickyard/rickyardlaw11.LargeDrop", spec := "largeDrop", inPlace := ["slices.overlaps[rickyard/api.Big]"], unfollowed := true, recurses := true, apart := false, narrowed := true }
def LargeDropUptoSaid : Prop := largeDropUptoRow.holds Try.pinned (OpenSpec.upto largeDropSpec)

/-- 'rickyardlaw13.ModelAll', WHERE WHAT IT READS IS OF BULK AT MOST 1048576: true; the input reads as it did. -/
def modelAllUptoRow : OpenClaim := { program := "ytflhbakjlbmfbaa", sum := "4c2d16678e46cdc909dc708a8ed2777e7e616321941ebc5d98c21d2daa576cea", func := "rickyard/rickyardlaw13.ModelAll", spec := "modelAll", inPlace := ["slices.overlaps[rickyard/api.Live]"], unfollowed := true, recurses := true, apart := false, narrowed := true }
def ModelAllUptoSaid : Prop := modelAllUptoRow.holds Try.pinned (OpenSpec.upto modelAllSpec)

/-- 'rickyardlaw11.LargeAll', WHERE WHAT IT READS IS OF BULK AT MOST 1048576: true; the input reads as it did. -/
def largeAllUptoRow : OpenClaim := { program := "ytflhbakjlbmfbaa", sum := "4c2d16678e46cdc909dc708a8ed2777e7e616321941ebc5d98c21d2daa576cea", func := "rickyard/rickyardlaw11.LargeAll", spec := "largeAll", inPlace := ["slices.overlaps[rickyard/api.Big]"], unfollowed := true, recurses := true, apart := false, narrowed := true }
def LargeAllUptoSaid : Prop := largeAllUptoRow.holds Try.pinned (OpenSpec.upto largeAllSpec)

/-- 'rickyardlaw13.ModelAccepts', WHERE WHAT IT READS IS OF BULK AT MOST 1048576: true; the input reads as it did. -/
def modelAcceptsUptoRow : OpenClaim := { program := "ytflhbakjlbmfbaa", sum := "4c2d16678e46cdc909dc708a8ed2777e7e616321941ebc5d98c21d2daa576cea", func := "rickyard/rickyardlaw13.ModelAccepts", spec := "modelAccepts", inPlace := ["slices.overlaps[rickyard/api.Live]"], unfollowed := true, recurses := true, apart := false, narrowed := true }
def ModelAcceptsUptoSaid : Prop := modelAcceptsUptoRow.holds Try.pinned (OpenSpec.upto modelAcceptsSpec)

/-- 'rickyardlaw13.ModelCut', WHERE WHAT IT READS IS OF BULK AT MOST 1048576: true; the input reads as it did. -/
def modelCutUptoRow : OpenClaim := { program := "ytflhbakjlbmfbaa", sum := "4c2d16678e46cdc909dc708a8ed2777e7e616321941ebc5d98c21d2daa576cea", func := "rickyard/rickyardlaw13.ModelCut", spec := "modelCut", inPlace := ["slices.overlaps[rickyard/api.Live]"], unfollowed := true, recurses := true, apart := false, narrowed := true }
def ModelCutUptoSaid : Prop := modelCutUptoRow.holds Try.pinned (OpenSpec.upto modelCutSpec)

/-- 'rickyardlaw13.ModelOwn', WHERE WHAT IT READS IS OF BULK AT MOST 1048576: true; the input reads as it did. -/
def modelOwnUptoRow : OpenClaim := { program := "ytflhbakjlbmfbaa", sum := "4c2d16678e46cdc909dc708a8ed2777e7e616321941ebc5d98c21d2daa576cea", func := "rickyard/rickyardlaw13.ModelOwn", spec := "modelOwn", inPlace := ["slices.overlaps[rickyard/api.Live]"], unfollowed := true, recurses := true, apart := false, narrowed := true }
def ModelOwnUptoSaid : Prop := modelOwnUptoRow.holds Try.pinned (OpenSpec.upto modelOwnSpec)

/-- 'rickyardlaw13.ModelApart', WHERE WHAT IT READS IS OF BULK AT MOST 1048576: true; the input reads as it did. -/
def modelApartUptoRow : OpenClaim := { program := "ytflhbakjlbmfbaa", sum := "4c2d16678e46cdc909dc708a8ed2777e7e616321941ebc5d98c21d2daa576cea", func := "rickyard/rickyardlaw13.ModelApart", spec := "modelApart", inPlace := ["slices.overlaps[rickyard/api.Live]"], unfollowed := true, recurses := true, apart := false, narrowed := true }
def ModelApartUptoSaid : Prop := modelApartUptoRow.holds Try.pinned (OpenSpec.upto modelApartSpec)

end Rows
end Go.Proofs.Ytflhbakjlbmfbaa
