/-
 AppendSnapshot: the reference and the program give the same, and how much. No conditions.
-/
import Derived.Test.YtklcofndjkjldaaGreatApNT1
import Derived.Test.YtklcofndjkjldaaGreatSnNT1
import Derived.Test.YtklcofndjkjldaaGreatSmNT1
namespace Go.Proofs.YtklcofndjkjldaaGreat
open Go.RowKit
set_option linter.unusedVariables false
set_option linter.unusedSimpArgs false
abbrev Hst:=Int × List (List Tbl)
theorem X4 {d : List Tbl} (h : dbB d = true) : d.length <= 6 ∧ ∀ t ∈ d,t.1.length <= 4 ∧ t.2.2.length <= 4000 ∧ ∀ r ∈ t.2.2,r.length <= 5:=by
 simp only [dbB,Bool.and_eq_true,decide_eq_true_eq,Bool.not_eq_true'] at h
 refine ⟨by omega,fun t ht => ?_⟩
 obtain ⟨k,hk,rfl⟩:=List.mem_iff_getElem.1 ht
 have hb:=GX h.2 hk
 simp only [Kw,Bool.or_eq_false_iff,Bool.not_eq_false'] at hb
 obtain ⟨⟨⟨⟨h1,_⟩,h3⟩,_⟩,_⟩:=hb
 obtain ⟨h4,h5,h6,_⟩:=(G7 _).1 h3
 refine ⟨?_,h5,fun r hr => by have:=(h6 r hr).1; omega⟩
 simp only [nmB,Bool.and_eq_true,btw,decide_eq_true_eq] at h1
 omega
end Go.Proofs.YtklcofndjkjldaaGreat
