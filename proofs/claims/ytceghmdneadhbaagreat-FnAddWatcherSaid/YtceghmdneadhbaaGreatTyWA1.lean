/-
 How the laws' arguments read as the machine's data, printed by genlaw.py. No conditions.
-/
import Derived.Test.YtceghmdneadhbaaGreatKc
import Derived.Test.YtceghmdneadhbaaGreatGenWA1
namespace Go.Proofs.YtceghmdneadhbaaGreat
open Go.RowKit Go.ChangeShapes Go.WideShapes Go.Deep
set_option linter.unusedVariables false
set_option maxRecDepth 100000
def c50_d (x : List Int) : List V := [dL cu8 x]
section
variable {H : Type} {enc : TypeId × Value -> H} {w : World} {base : Nat} {spare : Nat -> Bool} {held : Bool}
def ok50 (x : List Int) : Prop := x.length <= maxLen ∧ ∀ a ∈ x, (0 <= a ∧ a <= 255)
theorem op50 : Opens enc Tryz.prog w base spare held 50 c50_d ok50 := opens_sl Tryz.underlying50 (by kernel_rfl) (Nat.le_of_ble_eq_true rfl) zcu8 (opens_u8 Tryz.underlying5)
end
end Go.Proofs.YtceghmdneadhbaaGreat
