/-
 How the laws' arguments read as the machine's data, printed by genlaw.py. No conditions.
-/
import Derived.Test.YtklcofndjkjldaaGreatKc
import Derived.Test.YtklcofndjkjldaaGreatGenNT1
namespace Go.Proofs.YtklcofndjkjldaaGreat
open Go.RowKit Go.ChangeShapes Go.WideShapes Go.Deep
set_option linter.unusedVariables false
set_option maxRecDepth 100000
def dH (x : List Int) : List V:=[dL cu8 x]
section
variable {H : Type} {enc : TypeId × Value -> H} {w : World} {base : Nat} {spare : Nat -> Bool} {held : Bool}
def ib (x : List Int) : Prop:=x.length <= maxLen ∧ ∀ a ∈ x,(0 <= a ∧ a <= 255)
theorem iT : Opens enc Tryz.prog w base spare held 22 dH ib:=Wu Tryz.underlying22 (by kernel_rfl) (Nat.le_of_ble_eq_true rfl) gN (Wv Tryz.underlying5)
end
end Go.Proofs.YtklcofndjkjldaaGreat
