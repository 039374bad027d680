/-
  SplitHeavy: the reference and the program give the same, and how much. No conditions.
-/
import Derived.Test.YtkmkbpphdalgoaaHpK3
import Derived.Test.YtkmkbpphdalgoaaShK3
-- pure
namespace Go.Proofs.Ytkmkbpphdalgoaa
open Go.RowKit
set_option linter.unusedVariables false
theorem sm_filter {r : Rl} (h : sm_Relation r) (a : Int) (p : List Int → Bool) : sm_Relation (a, r.2.filter p) :=
  ⟨Nat.le_trans (List.length_filter_le p r.2) h.1, fun x hx => h.2 x (List.mem_filter.1 hx).1⟩
theorem sm_none (a : Int) : sm_Relation (a, []) := ⟨by simp, fun x hx => by cases hx⟩
theorem pure_SplitHeavy {r : Rl} {c t : Int} (s0 : sm_Relation r) (k0 : ok42 r) (k1 : InI c) (k2 : InI t) : ∃ x, spec_SplitHeavy r c t = some x ∧ impl_SplitHeavy r c t = some x ∧ sm_Relation x.1 ∧ sm_Relation x.2.1 := by
  have h : smRows r.2 := ⟨sm_lim s0.1, fun x hx => sm_lim (s0.2 x hx)⟩
  refine ⟨_, s_sh h, i_sh h, ?_⟩
  unfold shB
  split
  · exact ⟨sm_filter s0 _ _, sm_filter s0 _ _⟩
  · exact ⟨sm_none _, sm_none _⟩
end Go.Proofs.Ytkmkbpphdalgoaa
