/- A function's body that lies in a scope and holds no goto. No statement is proved here. -/
import Derived.Test.YtmmpdpnonnjadaaPrx0
import Derived.WalkMore
namespace Go.Proofs.Ytmmpdpnonnjadaa
theorem noGoto_body {P : Program} {fn : Func} {R : Ending → World → Prop} : Exit.noGoto (bodyPost P fn R) = bodyPost P fn R := by
  funext e a w
  cases e <;> rfl
theorem wp_scope_body {P : Program} {fn : Func} {R : Ending → World → Prop} {c : Code} {a : Act} {w : World} (h : c.wp P (bodyPost P fn R) a w) : (Code.scope c).wp P (bodyPost P fn R) a w :=
  wp_scope_straight (by rw [noGoto_body]; exact h)
abbrev tt : Bool := true
abbrev ff : Bool := false
abbrev msk (a b : Nat) : Array Bool := (List.replicate a true ++ List.replicate b false).toArray
end Go.Proofs.Ytmmpdpnonnjadaa
