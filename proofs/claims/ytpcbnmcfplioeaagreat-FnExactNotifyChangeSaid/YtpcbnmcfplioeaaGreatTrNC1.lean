/-
 Parents that form a tree: two ways to say it. Plain lists; no conditions.
-/
import Derived.Test.YtpcbnmcfplioeaaGreatQuNC1
namespace Go.Proofs.YtpcbnmcfplioeaaGreat
open Go.RowKit
set_option linter.unusedVariables false
set_option linter.unusedSimpArgs false
theorem LF {α : Type} {l : List α} {f : Nat -> α -> Bool} (h : ∀ i (hi : i < l.length),f i l[i] = false) : A1 l f = false:=by
 unfold A1
 rw [List.any_eq_false]
 intro k hk
 have hk:=List.mem_range.1 hk
 rw [AY hk,h k hk]
 simp
end Go.Proofs.YtpcbnmcfplioeaaGreat
