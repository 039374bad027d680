/-
 How the laws' arguments read as the machine's data, printed by genlaw.py. No conditions.
-/
import Derived.Test.YtlknpohjnpnodaaGreatKc
import Derived.Test.YtlknpohjnpnodaaGreatGenSC1
namespace Go.Proofs.YtlknpohjnpnodaaGreat
open Go.RowKit Go.ChangeShapes Go.WideShapes Go.Deep
set_option linter.unusedVariables false
set_option maxRecDepth 100000
def gv (x : List Int) : List V := [dL cu8 x]
section
variable {H : Type} {enc : TypeId × Value -> H} {w : World} {base : Nat} {spare : Nat -> Bool} {held : Bool}
def j0 (x : List Int) : Prop := x.length <= maxLen ∧ ∀ a ∈ x, (0 <= a ∧ a <= 255)
theorem kT : Opens enc Tryz.prog w base spare held 22 gv j0 := W0 Tryz.underlying22 (by kernel_rfl) (Nat.le_of_ble_eq_true rfl) jP (W1 Tryz.underlying5)
end
end Go.Proofs.YtlknpohjnpnodaaGreat
