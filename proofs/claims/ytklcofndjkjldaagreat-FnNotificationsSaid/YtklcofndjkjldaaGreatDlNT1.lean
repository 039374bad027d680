/-
 What is drawn: databases and queries that may fail, orders. On the printed functions; conditions: the code's length.
-/
import Derived.Test.YtklcofndjkjldaaGreatDsNT1
import Derived.Test.YtklcofndjkjldaaGreatDqNT1
import Derived.Test.YtklcofndjkjldaaGreatTtNT1
namespace Go.Proofs.YtklcofndjkjldaaGreat
open Go.RowKit
set_option linter.unusedVariables false
set_option linter.unusedSimpArgs false
def XM (d : List Tbl) : Prop:=d.length <= 6 ∧ ∀ t ∈ d,t.1.length <= 10 ∧ A9 t.2.2
theorem XM.sm {d : List Tbl} (h : XM d) : Iu d:=⟨by have:=h.1; unfold lim; omega,fun t ht => ⟨by have:=(h.2 t ht).1; unfold lim; omega,(h.2 t ht).2⟩⟩
theorem DbD.any {d : List Tbl} (h : DbD d) : XM d:=⟨by have:=h.1; omega,fun t ht => by
 obtain ⟨h1,k,h2,h3,h4⟩:=h.2 t ht
 exact ⟨h1,M9 h4 h3⟩⟩
section
variable {c : Cur}
end
end Go.Proofs.YtklcofndjkjldaaGreat
