/-
 AppendSnapshot: the reference and the program give the same, and how much. No conditions.
-/
import Derived.Test.YtceghmdneadhbaaGreatApWA1
import Derived.Test.YtceghmdneadhbaaGreatSnWA1
import Derived.Test.YtceghmdneadhbaaGreatSmWA1
-- pure
namespace Go.Proofs.YtceghmdneadhbaaGreat
open Go.RowKit
set_option linter.unusedVariables false
set_option linter.unusedSimpArgs false
abbrev Hst := Int × List (List Tbl)
theorem db_fewA {d : List Tbl} (h : dbB d = true) : d.length <= 6 ∧ ∀ t ∈ d,t.1.length <= 4 ∧ t.2.2.length <= 4000 ∧ ∀ r ∈ t.2.2,r.length <= 5 := by
 simp only [dbB,Bool.and_eq_true,decide_eq_true_eq,Bool.not_eq_true'] at h
 refine ⟨by omega,fun t ht => ?_⟩
 obtain ⟨k,hk,rfl⟩ := List.mem_iff_getElem.1 ht
 have hb := badAny_f h.2 hk
 simp only [tblBad,Bool.or_eq_false_iff,Bool.not_eq_false'] at hb
 obtain ⟨⟨⟨⟨h1,_⟩,h3⟩,_⟩,_⟩ := hb
 obtain ⟨h4,h5,h6,_⟩ := (rel_iff _).1 h3
 refine ⟨?_,h5,fun r hr => by have := (h6 r hr).1; omega⟩
 simp only [nmB,Bool.and_eq_true,btw,decide_eq_true_eq] at h1
 omega
end Go.Proofs.YtceghmdneadhbaaGreat
