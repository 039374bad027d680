/-
 What is drawn: databases and queries that may fail, orders. On the printed functions; conditions: the code's length.
-/
import Derived.Test.YtceghmdneadhbaaGreatDsWA1
import Derived.Test.YtceghmdneadhbaaGreatDqWA1
import Derived.Test.YtceghmdneadhbaaGreatTtWA1
-- pure
namespace Go.Proofs.YtceghmdneadhbaaGreat
open Go.RowKit
set_option linter.unusedVariables false
set_option linter.unusedSimpArgs false
def AnyDb (d : List Tbl) : Prop:=d.length <= 6 ∧ ∀ t ∈ d,t.1.length <= 10 ∧ smRows t.2.2
theorem AnyDb.sm {d : List Tbl} (h : AnyDb d) : smDb d:=⟨by have:=h.1; unfold lim; omega,fun t ht => ⟨by have:=(h.2 t ht).1; unfold lim; omega,(h.2 t ht).2⟩⟩
theorem DbD.any {d : List Tbl} (h : DbD d) : AnyDb d:=⟨by have:=h.1; omega,fun t ht => by
 obtain ⟨h1,k,h2,h3,h4⟩:=h.2 t ht
 exact ⟨h1,rows_smD h4 h3⟩⟩
section
variable {c : Cur}
end
end Go.Proofs.YtceghmdneadhbaaGreat
