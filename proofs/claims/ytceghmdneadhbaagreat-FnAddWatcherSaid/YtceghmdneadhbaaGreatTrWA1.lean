/-
 Parents that form a tree: two ways to say it. Plain lists; no conditions.
-/
import Derived.Test.YtceghmdneadhbaaGreatQuWA1
-- pure
namespace Go.Proofs.YtceghmdneadhbaaGreat
open Go.RowKit
set_option linter.unusedVariables false
set_option linter.unusedSimpArgs false
theorem badAny_of {α : Type} {l : List α} {f : Nat -> α -> Bool} (h : ∀ i (hi : i < l.length),f i l[i] = false) : badAny l f = false := by
 unfold badAny
 rw [List.any_eq_false]
 intro k hk
 have hk := List.mem_range.1 hk
 rw [atB_lt hk,h k hk]
 simp
end Go.Proofs.YtceghmdneadhbaaGreat
