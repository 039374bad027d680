/-
 Parents that form a tree: two ways to say it. Plain lists; no conditions.
-/
import Derived.Test.YtkclaipnejgloaaGreatDoorQuIF1
namespace Go.Proofs.YtkclaipnejgloaaGreatDoor
open Go.RowKit
set_option linter.unusedVariables false
set_option linter.unusedSimpArgs false
theorem Jq {α : Type} {l : List α} {f : Nat -> α -> Bool} (h : ∀ i (hi : i < l.length),f i l[i] = false) : Ay l f = false:=by
 unfold Ay
 rw [List.any_eq_false]
 intro k hk
 have hk:=List.mem_range.1 hk
 rw [AN hk,h k hk]
 simp
end Go.Proofs.YtkclaipnejgloaaGreatDoor
