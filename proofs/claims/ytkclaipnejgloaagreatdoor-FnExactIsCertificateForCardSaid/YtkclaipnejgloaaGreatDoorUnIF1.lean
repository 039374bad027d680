/-
 Ascending lists of small numbers, and how the program unites them. On the printed functions; conditions: numbers from 0 to 99.
-/
import Derived.Test.YtkclaipnejgloaaGreatDoorQuIF1
namespace Go.Proofs.YtkclaipnejgloaaGreatDoor
open Go.RowKit
set_option linter.unusedSimpArgs false
set_option linter.unusedVariables false
end Go.Proofs.YtkclaipnejgloaaGreatDoor
