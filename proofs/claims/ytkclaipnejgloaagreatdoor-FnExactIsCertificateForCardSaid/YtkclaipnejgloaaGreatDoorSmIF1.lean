/-
 Sizes: what the law's size check gives the pure texts. No conditions.
-/
import Derived.Test.YtkclaipnejgloaaGreatDoorHpIF1
import Derived.Test.YtkclaipnejgloaaGreatDoorVaIF1
namespace Go.Proofs.YtkclaipnejgloaaGreatDoor
open Go.RowKit
theorem Z7 {l : List (List Int)} (h : L4 l) : Hi l:=⟨Ft h.1,fun r hr => Ft (h.2 r hr)⟩
theorem dY {d : List Tbl} (h : IV d) : Q7 d:=⟨Ft h.1,fun t ht => ⟨Ft (h.2 t ht).1,Z7 (h.2 t ht).2⟩⟩
end Go.Proofs.YtkclaipnejgloaaGreatDoor
