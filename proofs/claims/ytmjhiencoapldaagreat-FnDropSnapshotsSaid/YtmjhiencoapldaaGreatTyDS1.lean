/-
  How the laws' arguments read as the machine's data, printed by genlaw.py. No conditions.
-/
import Derived.Test.YtmjhiencoapldaaGreatKc
import Derived.Test.YtmjhiencoapldaaGreatGenDS1
namespace Go.Proofs.YtmjhiencoapldaaGreat
open Go.RowKit Go.ChangeShapes Go.WideShapes Go.Deep
set_option linter.unusedVariables false
set_option maxRecDepth 100000
def c22_d (x : List Int) : List V := [dL cu8 x]
theorem zc22_d (x : List Int) : (c22_d x).length = 1 := rfl
theorem ec22_d (x : List Int) : erL (c22_d x) = c22_d x := (erc (erD ecu8 _) rfl)
section
variable {H : Type} {enc : TypeId × Value → H} {w : World} {base : Nat} {spare : Nat → Bool} {held : Bool}
def ok22 (x : List Int) : Prop := x.length ≤ maxLen ∧ ∀ a ∈ x, (0 ≤ a ∧ a ≤ 255)
theorem op22 : Opens enc Tryz.prog w base spare held 22 c22_d ok22 := opens_sl Tryz.underlying22 (by kernel_rfl) (Nat.le_of_ble_eq_true rfl) zcu8 (opens_u8 Tryz.underlying5)
end
end Go.Proofs.YtmjhiencoapldaaGreat
