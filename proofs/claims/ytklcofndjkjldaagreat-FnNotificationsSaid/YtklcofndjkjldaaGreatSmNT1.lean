/-
 Sizes: what the law's size check gives the pure texts. No conditions.
-/
import Derived.Test.YtklcofndjkjldaaGreatHpNT1
import Derived.Test.YtklcofndjkjldaaGreatVaNT1
namespace Go.Proofs.YtklcofndjkjldaaGreat
open Go.RowKit
end Go.Proofs.YtklcofndjkjldaaGreat
